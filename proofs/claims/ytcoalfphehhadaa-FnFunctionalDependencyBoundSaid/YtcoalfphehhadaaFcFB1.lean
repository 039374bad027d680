/-
  The closure of variables under dependencies: the reference and the program agree. On the printed functions; conditions: lengths.
-/
import Derived.Test.YtcoalfphehhadaaFvFB1
-- pure
namespace Go.Proofs.Ytcoalfphehhadaa
open Go.RowKit
set_option linter.unusedSimpArgs false
set_option linter.unusedVariables false
/-- two loops whose rounds do the same -/
theorem loop_same {S O : Type} {A B : (S → Option O) → S → Option O} (I : S → Prop) (h : ∀ s, I s → ∀ ra rb : S → Option O, (∀ s, I s → ra s = rb s) → A ra s = B rb s) : ∀ (m : Nat) (s : S), I s → loopF A m s = loopF B m s
  | 0, _, _ => rfl
  | m + 1, s, hs => by rw [loopF_succ, loopF_succ]; exact h s hs _ _ (fun s hs => loop_same I h m s hs)
/-- a loop over a list, with a state -/
theorem loop_st {S α : Type} {l : List α} {B : (S × Int → Option S) → S × Int → Option S} (step : S → α → S) (hl : l.length ≤ lim) (s0 : S)
    (h1 : ∀ k (hk : k < l.length) (s : S) rec, B rec (s, (k : Int)) = rec (step s l[k], ((k + 1 : Nat) : Int))) (h2 : ∀ s rec, B rec (s, (l.length : Int)) = some s) : loopF B fz (s0, 0) = some (l.foldl step s0) := by
  have := loop_to (body := B) (out := l.foldl step s0) (fun k => ((l.take k).foldl step s0, (k : Int))) l.length (fun k hk rec => ?_) (fun rec => ?_) fz (lt_fz hl)
  · simpa using this
  · rw [h1 k hk, List.take_succ_eq_append_getElem hk, List.foldl_append]; rfl
  · rw [h2, List.take_length]
/-- a loop that counts, with a state -/
theorem loop_n {S : Type} {B : (S × Int → Option S) → S × Int → Option S} (n : Nat) (step : Nat → S → S) (hl : n ≤ lim) (s0 : S)
    (h1 : ∀ k, k < n → ∀ (s : S) rec, B rec (s, (k : Int)) = rec (step k s, ((k + 1 : Nat) : Int))) (h2 : ∀ s rec, B rec (s, (n : Int)) = some s) : loopF B fz (s0, 0) = some ((List.range n).foldl (fun s k => step k s) s0) := by
  have := loop_to (body := B) (out := (List.range n).foldl (fun s k => step k s) s0) (fun k => ((List.range k).foldl (fun s k => step k s) s0, (k : Int))) n (fun k hk rec => ?_) (fun rec => ?_) fz (lt_fz hl)
  · simpa using this
  · rw [h1 k hk, List.range_succ, List.foldl_append]; rfl
  · rw [h2]
section
variable {q : Qry} {fs : List FDep} {vs : List Int}
/-- the set of the variables that are ones -/
def setOf (q : Qry) (m : Int) (v : Int) : Int := if btw v 0 (IntKind.i64.wrap (q.1 - 1)) = true then orI m (shlI 1 v) else m
theorem in_q (h : 1 ≤ q.1 ∧ q.1 ≤ 5) {v : Int} (hv : btw v 0 (IntKind.i64.wrap (q.1 - 1)) = true) : 0 ≤ v ∧ v < 5 := by
  rw [wrap_in (by omega)] at hv
  have : 0 ≤ v ∧ v ≤ q.1 - 1 := by unfold btw at hv; simpa using hv
  omega
theorem s_c1 (h : 1 ≤ q.1 ∧ q.1 ≤ 5) (hl : vs.length ≤ lim) : loopF (spec_FDClosure_B1 q vs) fz (0, 0) = some (vs.foldl (setOf q) 0) := by
  refine loop_st (setOf q) hl 0 (fun k hk s rec => ?_) (fun s rec => ?_)
  · simp only [spec_FDClosure_B1, lt_dec hk, cond_true, geti_at hk, obind, s_l1In, setOf]
    cases hb : btw vs[k] 0 (IntKind.i64.wrap (q.1 - 1)) with
    | true => simp only [cond_true, chk_pos (in_q h hb).1, spec_FDClosure_J2, wrap_s hk (lim_max hl), if_true]
    | false => simp only [cond_false, spec_FDClosure_J2, wrap_s hk (lim_max hl), Bool.false_eq_true, if_false]
  · simp only [spec_FDClosure_B1, nlt_dec, cond_false]
theorem i_c1 (h : 1 ≤ q.1 ∧ q.1 ≤ 5) (hl : vs.length ≤ lim) : loopF (impl_FDClosure_B1 q vs) fz (0, 0) = some (vs.foldl (setOf q) 0) := by
  refine loop_st (setOf q) hl 0 (fun k hk s rec => ?_) (fun s rec => ?_)
  · simp only [impl_FDClosure_B1, lt_dec hk, cond_true, geti_at hk, obind, i_within, setOf]
    cases hb : btw vs[k] 0 (IntKind.i64.wrap (q.1 - 1)) with
    | true => simp only [cond_true, u64_in (in_q h hb), chk_pos (in_q h hb).1, impl_FDClosure_J2, wrap_s hk (lim_max hl), if_true]
    | false => simp only [cond_false, impl_FDClosure_J2, wrap_s hk (lim_max hl), Bool.false_eq_true, if_false]
  · simp only [impl_FDClosure_B1, nlt_dec, cond_false]
/-- one dependency in one atom -/
def grow1 (m : Int) (p : Int × Int) : Int := if (decide (0 ≤ p.2) && (andNotI p.1 m == 0)) = true then orI m (shlI 1 p.2) else m
/-- the pairs of a dependency -/
def prs (q : Qry) (f : FDep) : List (Int × Int) := if qryB q = true then q.2.1.map (fdv f) else []
theorem prs_1 (f : FDep) : (fdvs q f).1 = (prs q f).map (·.1) ∧ (fdvs q f).2 = (prs q f).map (·.2) := by
  unfold fdvs prs
  split <;> simp
theorem prs_in (hq : qryB q = true) {f : FDep} {p : Int × Int} (hp : p ∈ prs q f) (h0 : 0 ≤ p.2) : p.2 < 5 := by
  obtain ⟨h1, h2, h3, h4⟩ := qry_facts hq
  unfold prs at hp
  rw [if_pos hq] at hp
  obtain ⟨a, ha, rfl⟩ := List.mem_map.1 hp
  obtain ⟨g1, g2, g3⟩ := h4 a ha
  unfold fdv at h0 ⊢
  split
  · rename_i hf
    unfold fitK at hf
    simp only [Bool.and_eq_true] at hf
    have := inr_t g2 hf.1.2
    show atI a.2 f.2.2 < 5
    unfold atI geti
    rw [if_pos this.1, List.getElem?_eq_getElem (by omega)]
    have := g3 _ (List.getElem_mem (l := a.2) (by omega : f.2.2.toNat < a.2.length))
    simp only [Option.getD_some]
    omega
  · decide
theorem prs_len (f : FDep) : (prs q f).length ≤ 4 := by
  unfold prs
  split
  · rename_i h; have := (qry_facts h).2.2.1; simp only [List.length_map]; omega
  · simp
theorem s_c5 (hq : qryB q = true) (f : FDep) (m : Int) : loopF (spec_FDClosure_B5 (fdvs q f)) fz (m, 0) = some ((prs q f).foldl grow1 m) := by
  obtain ⟨e1, e2⟩ := prs_1 (q := q) f
  have hl4 := prs_len (q := q) f
  have hl : (prs q f).length ≤ lim := by unfold lim; omega
  refine loop_st grow1 hl m (fun k hk s rec => ?_) (fun s rec => ?_)
  · have g1 : geti (fdvs q f).1 (k : Int) = some (prs q f)[k].1 := by rw [e1, geti_at (by simpa using hk), List.getElem_map]
    have g2 : geti (fdvs q f).2 (k : Int) = some (prs q f)[k].2 := by rw [e2, geti_at (by simpa using hk), List.getElem_map]
    have hlen : ((fdvs q f).1.length : Int) = ((prs q f).length : Int) := by rw [e1, List.length_map]
    simp only [spec_FDClosure_B5, hlen, lt_dec hk, cond_true, g1, g2, obind, grow1]
    cases hd : decide (0 ≤ (prs q f)[k].2) with
    | false => simp only [cond_false, spec_FDClosure_J6, spec_FDClosure_J7, wrap_s hk (lim_max hl), Bool.false_and, Bool.false_eq_true, if_false]
    | true =>
      have h0 : 0 ≤ (prs q f)[k].2 := by simpa using hd
      cases hn : (andNotI (prs q f)[k].1 s == 0) with
      | false => simp only [cond_true, cond_false, spec_FDClosure_J6, spec_FDClosure_J7, wrap_s hk (lim_max hl), hn, Bool.true_and, Bool.false_eq_true, if_false]
      | true => simp only [cond_true, spec_FDClosure_J6, g2, obind, chk_pos h0, spec_FDClosure_J7, wrap_s hk (lim_max hl), hn, Bool.true_and, if_true]
  · have hlen : ((fdvs q f).1.length : Int) = ((prs q f).length : Int) := by rw [e1, List.length_map]
    simp only [spec_FDClosure_B5, hlen, nlt_dec, cond_false]
theorem i_c5 (hq : qryB q = true) (f : FDep) (m : Int) : loopF (impl_FDClosure_B5 (fdvs q f)) fz (m, 0) = some ((prs q f).foldl grow1 m) := by
  obtain ⟨e1, e2⟩ := prs_1 (q := q) f
  have hl4 := prs_len (q := q) f
  have hl : (prs q f).length ≤ lim := by unfold lim; omega
  refine loop_st grow1 hl m (fun k hk s rec => ?_) (fun s rec => ?_)
  · have g1 : geti (fdvs q f).1 (k : Int) = some (prs q f)[k].1 := by rw [e1, geti_at (by simpa using hk), List.getElem_map]
    have g2 : geti (fdvs q f).2 (k : Int) = some (prs q f)[k].2 := by rw [e2, geti_at (by simpa using hk), List.getElem_map]
    have hlen : ((fdvs q f).1.length : Int) = ((prs q f).length : Int) := by rw [e1, List.length_map]
    simp only [impl_FDClosure_B5, hlen, lt_dec hk, cond_true, g1, g2, obind, grow1]
    cases hd : decide (0 ≤ (prs q f)[k].2) with
    | false => simp only [cond_false, impl_FDClosure_J6, impl_FDClosure_J7, wrap_s hk (lim_max hl), Bool.false_and, Bool.false_eq_true, if_false]
    | true =>
      have h0 : 0 ≤ (prs q f)[k].2 := by simpa using hd
      have h5 := prs_in hq (List.getElem_mem hk) h0
      cases hn : (andNotI (prs q f)[k].1 s == 0) with
      | false => simp only [cond_true, cond_false, impl_FDClosure_J6, impl_FDClosure_J7, wrap_s hk (lim_max hl), hn, Bool.true_and, Bool.false_eq_true, if_false]
      | true => simp only [cond_true, impl_FDClosure_J6, g2, obind, u64_in ⟨h0, h5⟩, chk_pos h0, impl_FDClosure_J7, wrap_s hk (lim_max hl), hn, Bool.true_and, if_true]
  · have hlen : ((fdvs q f).1.length : Int) = ((prs q f).length : Int) := by rw [e1, List.length_map]
    simp only [impl_FDClosure_B5, hlen, nlt_dec, cond_false]
def grow2 (q : Qry) (m : Int) (f : FDep) : Int := (prs q f).foldl grow1 m
theorem s_c4 (h : smQ q) (hq : qryB q = true) (hl : fs.length ≤ lim) (hf : ∀ f ∈ fs, f.2.1.length ≤ lim) (m : Int) : loopF (spec_FDClosure_B4 q fs) fz (m, 0) = some (fs.foldl (grow2 q) m) := by
  refine loop_st (grow2 q) hl m (fun k hk s rec => ?_) (fun s rec => ?_)
  · simp only [spec_FDClosure_B4, lt_dec hk, cond_true, geti_at hk, obind, s_fdv h (hf _ (List.getElem_mem hk)), s_c5 hq, wrap_s hk (lim_max hl), grow2]
  · simp only [spec_FDClosure_B4, nlt_dec, cond_false]
theorem i_c4 (h : smQ q) (hq : qryB q = true) (hl : fs.length ≤ lim) (hf : ∀ f ∈ fs, f.2.1.length ≤ lim) (m : Int) : loopF (impl_FDClosure_B4 q fs) fz (m, 0) = some (fs.foldl (grow2 q) m) := by
  refine loop_st (grow2 q) hl m (fun k hk s rec => ?_) (fun s rec => ?_)
  · simp only [impl_FDClosure_B4, lt_dec hk, cond_true, geti_at hk, obind, i_fdv h (hf _ (List.getElem_mem hk)), i_c5 hq, wrap_s hk (lim_max hl), grow2]
  · simp only [impl_FDClosure_B4, nlt_dec, cond_false]
def grow3 (q : Qry) (fs : List FDep) (m : Int) : Int := (List.range q.1.toNat).foldl (fun s _ => fs.foldl (grow2 q) s) m
theorem q_nat (h : 1 ≤ q.1 ∧ q.1 ≤ 5) : ((q.1.toNat : Nat) : Int) = q.1 := by omega
theorem s_c3 (h : smQ q) (hq : qryB q = true) (hl : fs.length ≤ lim) (hf : ∀ f ∈ fs, f.2.1.length ≤ lim) (m : Int) : loopF (spec_FDClosure_B3 q fs) fz (m, 0) = some (grow3 q fs m) := by
  obtain ⟨h1, h2, -⟩ := qry_facts hq
  have hn : q.1.toNat ≤ lim := by unfold lim; omega
  refine loop_n q.1.toNat (fun _ s => fs.foldl (grow2 q) s) hn m (fun k hk s rec => ?_) (fun s rec => ?_)
  · simp only [spec_FDClosure_B3]
    rw [decide_eq_true (by omega : (k : Int) < q.1), cond_true, s_c4 h hq hl hf]
    simp only [obind, wrap_s hk (lim_max hn)]
  · simp only [spec_FDClosure_B3]
    rw [decide_eq_false (by omega), cond_false]
theorem i_c3 (h : smQ q) (hq : qryB q = true) (hl : fs.length ≤ lim) (hf : ∀ f ∈ fs, f.2.1.length ≤ lim) (m : Int) : loopF (impl_FDClosure_B3 q fs) fz (m, 0) = some (grow3 q fs m) := by
  obtain ⟨h1, h2, -⟩ := qry_facts hq
  have hn : q.1.toNat ≤ lim := by unfold lim; omega
  refine loop_n q.1.toNat (fun _ s => fs.foldl (grow2 q) s) hn m (fun k hk s rec => ?_) (fun s rec => ?_)
  · simp only [impl_FDClosure_B3]
    rw [decide_eq_true (by omega : (k : Int) < q.1), cond_true, i_c4 h hq hl hf]
    simp only [obind, wrap_s hk (lim_max hn)]
  · simp only [impl_FDClosure_B3]
    rw [decide_eq_false (by omega), cond_false]
/-- the numbers of the ones -/
def onesK (m : Int) (k : Nat) : List Int := ((List.range k).filter fun (v : Nat) => andI (shrI m (v : Int)) 1 == 1).map (fun (v : Nat) => (v : Int))
theorem onesK_s (m : Int) (k : Nat) : onesK m (k + 1) = if (andI (shrI m (k : Int)) 1 == 1) = true then onesK m k ++ [(k : Int)] else onesK m k := by
  unfold onesK
  rw [List.range_succ, List.filter_append, List.map_append]
  split
  · rename_i h; simp [h]
  · rename_i h; simp [h]
theorem onesK_len (m : Int) (k : Nat) : (onesK m k).length ≤ k := by
  unfold onesK
  rw [List.length_map]
  exact Nat.le_trans (List.length_filter_le _ _) (by simp)
theorem s_c8 (h : 1 ≤ q.1 ∧ q.1 ≤ 5) (m : Int) : loopF (spec_FDClosure_B8 q m) fz ([], 0) = some (onesK m q.1.toNat) := by
  have hn : q.1.toNat ≤ lim := by unfold lim; omega
  have := loop_to (body := spec_FDClosure_B8 q m) (out := onesK m q.1.toNat) (fun k => (onesK m k, (k : Int))) q.1.toNat (fun k hk rec => ?_) (fun rec => ?_) fz (lt_fz hn)
  · simpa [onesK] using this
  · have hl := onesK_len m k
    simp only [spec_FDClosure_B8]
    rw [decide_eq_true (by omega : (k : Int) < q.1), cond_true, chk_pos (by omega), onesK_s]
    cases hb : (andI (shrI m (k : Int)) 1 == 1) with
    | true =>
      rw [cond_true, chk_pos (by simp; unfold lim; omega)]
      simp only [spec_FDClosure_J9, wrap_s hk (lim_max hn), if_true]
    | false => simp only [cond_false, spec_FDClosure_J9, wrap_s hk (lim_max hn), Bool.false_eq_true, if_false]
  · simp only [spec_FDClosure_B8]
    rw [decide_eq_false (by omega), cond_false]
theorem i_c8 (h : 1 ≤ q.1 ∧ q.1 ≤ 5) (m : Int) : loopF (impl_FDClosure_B8 q m) fz ([], 0) = some (onesK m q.1.toNat) := by
  have hn : q.1.toNat ≤ lim := by unfold lim; omega
  have := loop_to (body := impl_FDClosure_B8 q m) (out := onesK m q.1.toNat) (fun k => (onesK m k, (k : Int))) q.1.toNat (fun k hk rec => ?_) (fun rec => ?_) fz (lt_fz hn)
  · simpa [onesK] using this
  · have hl := onesK_len m k
    simp only [impl_FDClosure_B8]
    rw [decide_eq_true (by omega : (k : Int) < q.1), cond_true, u64_in (by omega), chk_pos (by omega), onesK_s]
    cases hb : (andI (shrI m (k : Int)) 1 == 1) with
    | true =>
      rw [cond_true, chk_pos (by simp; unfold lim; omega)]
      simp only [impl_FDClosure_J9, wrap_s hk (lim_max hn), if_true]
    | false => simp only [cond_false, impl_FDClosure_J9, wrap_s hk (lim_max hn), Bool.false_eq_true, if_false]
  · simp only [impl_FDClosure_B8]
    rw [decide_eq_false (by omega), cond_false]
def closB (q : Qry) (fs : List FDep) (vs : List Int) : List Int := if qryB q = true then onesK (grow3 q fs (vs.foldl (setOf q) 0)) q.1.toNat else []
theorem s_clos (h : smQ q) (hl : fs.length ≤ lim) (hf : ∀ f ∈ fs, f.2.1.length ≤ lim) (hv : vs.length ≤ lim) : spec_FDClosure q fs vs = some (closB q fs vs) := by
  unfold spec_FDClosure closB
  rw [s_query h]
  by_cases hq : qryB q = true
  · obtain ⟨h1, h2, -⟩ := qry_facts hq
    simp only [obind, hq, Bool.not_true, cond_false, s_c1 ⟨h1, h2⟩ hv, s_c3 h hq hl hf, s_c8 ⟨h1, h2⟩, if_true]
  · rw [if_neg hq]
    simp only [obind]
    rw [show qryB q = false by simpa using hq]; rfl
theorem i_clos (h : smQ q) (hl : fs.length ≤ lim) (hf : ∀ f ∈ fs, f.2.1.length ≤ lim) (hv : vs.length ≤ lim) : impl_FDClosure q fs vs = some (closB q fs vs) := by
  unfold impl_FDClosure closB
  rw [i_query h]
  by_cases hq : qryB q = true
  · obtain ⟨h1, h2, -⟩ := qry_facts hq
    simp only [obind, hq, Bool.not_true, cond_false, i_c1 ⟨h1, h2⟩ hv, i_c3 h hq hl hf, i_c8 ⟨h1, h2⟩, if_true]
  · rw [if_neg hq]
    simp only [obind]
    rw [show qryB q = false by simpa using hq]; rfl
theorem clos_len : (closB q fs vs).length ≤ 5 := by
  unfold closB
  split
  · rename_i hq
    obtain ⟨h1, h2, -⟩ := qry_facts hq
    have := onesK_len (grow3 q fs (vs.foldl (setOf q) 0)) q.1.toNat
    omega
  · simp
end
end Go.Proofs.Ytcoalfphehhadaa
