/-
  The leapfrog join of the reference, and the next row. On the printed functions; conditions: sizes.
-/
import Derived.Test.YtlknpohjnpnodaaGreatLhAC1
-- pure
namespace Go.Proofs.YtlknpohjnpnodaaGreat
open Go.RowKit
set_option linter.unusedVariables false
set_option linter.unusedSimpArgs false
/-! ### children, once more -/
theorem ch_is {t : Tri} {pre : List Int} (h : TriOk t pre.length) : chB t pre = [] ∨ ∃ lo hi : Nat, lo ≤ hi ∧ hi ≤ t.2.length ∧ (pre.length : Int) < t.1 ∧ chB t pre = chK (subl t.2 (lo : Int) (hi : Int)) pre.length (hi - lo) := by
  obtain ⟨lo, hi, hlh, hhi, _, _, es⟩ := range_s h
  unfold chB
  rw [ch_s h hlh hhi es, Option.getD_some]
  by_cases hp : (pre.length : Int) < t.1
  · rw [if_pos hp]; exact .inr ⟨lo, hi, hlh, hhi, hp, rfl⟩
  · rw [if_neg hp]; exact .inl rfl
theorem chK_from (S : List (List Int)) (p : Nat) : ∀ n, n ≤ S.length → ∀ x ∈ chK S p n, ∃ r ∈ S, x = atI r (p : Int)
  | 0, _, x, hx => by rw [chK] at hx; cases hx
  | n + 1, hn, x, hx => by
    rw [chK] at hx
    rcases List.mem_append.1 hx with hx | hx
    · exact chK_from S p n (by omega) x hx
    · cases hb : pushB (chK S p n) (atI ((S[n]?).getD []) (p : Int)) with
      | false => rw [hb] at hx; cases hx
      | true =>
        rw [hb, cond_true, List.mem_singleton] at hx
        refine ⟨S[n], List.getElem_mem _, ?_⟩
        rw [hx, List.getElem?_eq_getElem (by omega)]; rfl
theorem ch_few {t : Tri} {pre : List Int} (h : TriOk t pre.length) : (chB t pre).length ≤ t.2.length ∧ ∀ x ∈ chB t pre, 0 ≤ x ∧ x ≤ 99 := by
  rcases ch_is h with e | ⟨lo, hi, h1, h2, h3, e⟩
  · rw [e]; exact ⟨Nat.zero_le _, fun x hx => by cases hx⟩
  · rw [e]
    have hl := chK_len (subl t.2 (lo : Int) (hi : Int)) pre.length (hi - lo)
    refine ⟨by omega, fun x hx => ?_⟩
    obtain ⟨r, hr, rfl⟩ := chK_from _ _ _ (by unfold subl; rw [Int.toNat_natCast, Int.toNat_natCast, List.length_drop, List.length_take]; omega) x hx
    have hm : r ∈ t.2 := by unfold subl at hr; exact List.mem_of_mem_take (List.mem_of_mem_drop hr)
    have hv := (rel_rows h.1).2.2.2 r hm
    have := hv.1
    rw [atI_n (by omega)]
    exact avv_at hv.2 (by omega)
/-! ### the values of a prefix -/
def pfK (a : Atm) (o pre : List Int) : Nat → List Int
  | 0 => []
  | i + 1 => pfK a o pre i ++ cond (a.2.contains (atI o (i : Int))) [atI pre (i : Int)] []
theorem pf_len (a : Atm) (o pre : List Int) : ∀ k, k ≤ o.length → (pfK a o pre k).length = depB a o k
  | 0, _ => by simp [pfK, depB]
  | k + 1, hk => by
    rw [pfK, List.length_append, pf_len a o pre k (by omega), dep_s a (by omega), atI_n (by omega)]
    cases a.2.contains o[k] <;> rfl
theorem s_pf {a : Atm} {o pre : List Int} (ha : a.2.length ≤ lim) (hp : pre.length ≤ o.length) (ho : o.length ≤ 5) : spec_l20Prefix a o pre = some (pfK a o pre pre.length) := by
  unfold spec_l20Prefix
  have hl : pre.length ≤ lim := by unfold lim; omega
  have := loop_to (body := spec_l20Prefix_B1 a o pre) (out := pfK a o pre pre.length) (fun k => (pfK a o pre k, (k : Int))) pre.length (fun k hk rec => by
    have hpl := pf_len a o pre k (by omega)
    have hd := dep_le a o k
    have hJ : ∀ y, spec_l20Prefix_J2 rec (k : Int) y = rec (y, ((k + 1 : Nat) : Int)) := fun y => by unfold spec_l20Prefix_J2; rw [wrap_s hk (lim_max hl)]
    unfold spec_l20Prefix_B1
    simp only
    rw [lt_dec hk, geti_at (l := o) (by omega), pfK, atI_n (l := o) (by omega), atI_n hk]
    simp only [cond_true, obind]
    rw [s_cv ha]
    simp only [hJ]
    rw [geti_at hk]
    cases a.2.contains o[k] with
    | true => simp only [cond_true]; rw [chk_pos (by simp only [List.length_singleton]; unfold lim; omega)]
    | false => simp only [cond_false, List.append_nil]) (fun rec => by unfold spec_l20Prefix_B1; simp only; rw [nlt_dec]; rfl) fz (lt_fz hl)
  have h2 : loopF (spec_l20Prefix_B1 a o pre) fz ([], 0) = some (pfK a o pre pre.length) := this
  rw [h2]; rfl
/-! ### the next values -/
section
variable {T : List Tri} {q : Qry} {o : List Int}
def kyL (T : List Tri) (q : Qry) (o pre : List Int) : List (List Int) := (ixK q (atI o (pre.length : Int)) q.2.1.length).map fun i => chB ((T[i]?).getD (0, [])) (pfK ((q.2.1[i]?).getD ([], [])) o pre pre.length)
def ky (T : List Tri) (q : Qry) (o pre : List Int) : List Int × Int := lfB (kyL T q o pre)
theorem ky_ok (h : TriesOk T q o) {pre : List Int} (hk : pre.length < o.length) : ∀ i ∈ ixK q (atI o (pre.length : Int)) q.2.1.length, ∃ (hi : i < q.2.1.length), TriOk (T[i]'(by rw [h.len]; exact hi)) (pfK q.2.1[i] o pre pre.length).length ∧ chB ((T[i]?).getD (0, [])) (pfK ((q.2.1[i]?).getD ([], [])) o pre pre.length) = chB (T[i]'(by rw [h.len]; exact hi)) (pfK q.2.1[i] o pre pre.length) := fun i hi => by
  obtain ⟨hil, hc⟩ := ix_mem hi
  have hT := tri_dep h hil (k := pre.length) (by omega)
  refine ⟨hil, by rw [pf_len _ _ _ _ (by omega)]; exact hT, ?_⟩
  rw [List.getElem?_eq_getElem (by rw [h.len]; exact hil), List.getElem?_eq_getElem hil]; rfl
theorem ky_sm (h : TriesOk T q o) {pre : List Int} (hk : pre.length < o.length) : smLs (kyL T q o pre) ∧ 0 < (kyL T q o pre).length := by
  have hq4 := (qry_in h.qv).2.2.1
  have hxl := ixK_len q (atI o (pre.length : Int)) q.2.1.length
  have ho := ord_all h.ov
  have hv := ho.2.2.1 _ (List.getElem_mem hk)
  have hp := ix_pos h.qv hv.1 hv.2
  unfold smLs kyL
  rw [List.length_map]
  refine ⟨⟨by omega, fun l hl => ?_⟩, by rw [atI_n hk]; omega⟩
  obtain ⟨i, hi, rfl⟩ := List.mem_map.1 hl
  obtain ⟨hil, hT, e⟩ := ky_ok h hk i hi
  rw [e]
  have h1 := (ch_few hT).1
  have h2 := (tri_sm hT).2.1
  omega
theorem s_keys (h : TriesOk T q o) {pre : List Int} (hk : pre.length < o.length) : spec_l20Keys T q o pre = some (ky T q o pre) := by
  have ho := ord_all h.ov
  have hqn := qry_n h.qv
  have hq4 := (qry_in h.qv).2.2.1
  have hxl := ixK_len q o[pre.length] q.2.1.length
  unfold spec_l20Keys
  rw [geti_at hk]
  simp only [obind]
  rw [s_ix h.sm h.qv]
  simp only
  have hlen : (ixB q o[pre.length]).length = (ixK q o[pre.length] q.2.1.length).length := by unfold ixB; rw [List.length_map]
  have hkl : (kyL T q o pre).length = (ixK q o[pre.length] q.2.1.length).length := by unfold kyL; rw [List.length_map, atI_n hk]
  have hloop : loopF (spec_l20Keys_B1 T q o pre (ixB q o[pre.length])) fz (([] : List (List Int)), 0) = some (kyL T q o pre) := by
    have := loop_to (body := spec_l20Keys_B1 T q o pre (ixB q o[pre.length])) (out := kyL T q o pre) (fun j => ((kyL T q o pre).take j, (j : Int))) (kyL T q o pre).length (fun j hj rec => by
      have hj2 : j < (ixK q o[pre.length] q.2.1.length).length := by omega
      have hmem : (ixK q o[pre.length] q.2.1.length)[j] ∈ ixK q (atI o (pre.length : Int)) q.2.1.length := by rw [atI_n hk]; exact List.getElem_mem hj2
      obtain ⟨hil, hT, e⟩ := ky_ok h hk _ hmem
      have hg : geti (ixB q o[pre.length]) (j : Int) = some (((ixK q o[pre.length] q.2.1.length)[j] : Nat) : Int) := by
        rw [geti_nat]; unfold ixB; rw [List.getElem?_map, List.getElem?_eq_getElem hj2]; rfl
      have hal := (h.sm.2.1 _ (List.getElem_mem hil)).2
      have hTl : (ixK q o[pre.length] q.2.1.length)[j] < T.length := by rw [h.len]; exact hil
      have hval : (kyL T q o pre)[j] = chB (T[(ixK q o[pre.length] q.2.1.length)[j]]'hTl) (pfK q.2.1[(ixK q o[pre.length] q.2.1.length)[j]] o pre pre.length) := by
        have h1 : (kyL T q o pre)[j]? = some (chB (T[(ixK q o[pre.length] q.2.1.length)[j]]'hTl) (pfK q.2.1[(ixK q o[pre.length] q.2.1.length)[j]] o pre pre.length)) := by
          unfold kyL
          rw [List.getElem?_map, atI_n hk, List.getElem?_eq_getElem hj2, Option.map_some, e]
        rw [List.getElem?_eq_getElem hj] at h1
        exact Option.some.inj h1
      unfold spec_l20Keys_B1
      simp only
      rw [hlen, lt_dec hj2, hg]
      simp only [cond_true, obind]
      rw [geti_at hTl]
      simp only [geti_at hil]
      rw [s_pf hal (by omega) (by omega)]
      simp only
      rw [s_ch hT]
      simp only
      rw [chk_pos (by simp only [List.length_take, List.length_singleton]; unfold lim; omega), List.take_succ_eq_append_getElem hj, hval, wrap_in (by omega)]
      rfl) (fun rec => by unfold spec_l20Keys_B1; simp only; rw [hkl, hlen, nlt_dec, ← hkl, List.take_length]; rfl) fz (by unfold fz; omega)
    simpa using this
  rw [hloop]
  simp only
  rw [s_lf (ky_sm h hk).1]
  rfl
/-- the rows behind a prefix, and the steps -/
def wk (T : List Tri) (q : Qry) (o : List Int) : Nat → List Int → List (List Int) × Int
  | 0, pre => ([pre], 0)
  | r + 1, pre => ((ky T q o pre).1.flatMap (fun v => (wk T q o r (pre ++ [v])).1), (ky T q o pre).1.foldl (fun n v => IntKind.i64.wrap (n + (wk T q o r (pre ++ [v])).2)) (ky T q o pre).2)
theorem ky_few (h : TriesOk T q o) (h16 : ∀ t ∈ T, t.2.length ≤ 16) {pre : List Int} (hk : pre.length < o.length) : (ky T q o pre).1.length ≤ 16 ∧ Asc (ky T q o pre).1 ∧ (∀ x ∈ (ky T q o pre).1, 0 ≤ x ∧ x ≤ 99) := by
  obtain ⟨h1, h2⟩ := ky_sm h hk
  obtain ⟨v1, v2, v3, _⟩ := lf_val2 h1
  have hm := List.getElem_mem h2
  have hm' := hm
  unfold kyL at hm'
  obtain ⟨i, hi, e1⟩ := List.mem_map.1 hm'
  obtain ⟨hil, hT, e2⟩ := ky_ok h hk i hi
  have hf := ch_few hT
  rw [e2] at e1
  refine ⟨?_, v1, fun x hx => ?_⟩
  · refine Nat.le_trans (v3 _ hm) ?_
    rw [show (kyL T q o pre)[0] = _ from e1.symm]
    exact Nat.le_trans hf.1 (h16 _ (List.getElem_mem _))
  · have := v2 x hx _ hm
    rw [show (kyL T q o pre)[0] = _ from e1.symm] at this
    exact hf.2 x this
theorem wk_few (h : TriesOk T q o) (h16 : ∀ t ∈ T, t.2.length ≤ 16) : ∀ (r : Nat) (pre : List Int), pre.length + r = o.length → (wk T q o r pre).1.length ≤ 16 ^ r ∧ (∀ z ∈ (wk T q o r pre).1, z.length = o.length ∧ z.take pre.length = pre ∧ ((∀ x ∈ pre, 0 ≤ x ∧ x ≤ 99) → ∀ x ∈ z, 0 ≤ x ∧ x ≤ 99))
  | 0, pre, hr => by
    rw [wk]
    refine ⟨by simp, fun z hz => ?_⟩
    rw [List.mem_singleton] at hz
    subst hz
    exact ⟨by omega, List.take_length, fun h => h⟩
  | r + 1, pre, hr => by
    obtain ⟨k1, k2, k3⟩ := ky_few h h16 (pre := pre) (by omega)
    have ih := fun v => wk_few h h16 r (pre ++ [v]) (by rw [List.length_append, List.length_singleton]; omega)
    rw [wk]
    refine ⟨?_, fun z hz => ?_⟩
    · have key : ∀ l : List Int, (l.flatMap (fun v => (wk T q o r (pre ++ [v])).1)).length ≤ l.length * 16 ^ r := by
        intro l
        induction l with
        | nil => simp
        | cons v l ihl =>
          rw [List.flatMap_cons, List.length_append, List.length_cons, Nat.add_mul, Nat.one_mul]
          have := (ih v).1
          omega
      have h1 := key (ky T q o pre).1
      have h2 : (ky T q o pre).1.length * 16 ^ r ≤ 16 * 16 ^ r := Nat.mul_le_mul_right _ k1
      rw [Nat.pow_succ]
      simp only
      omega
    · obtain ⟨v, hv, hz⟩ := List.mem_flatMap.1 hz
      obtain ⟨z1, z2, z3⟩ := (ih v).2 z hz
      refine ⟨z1, ?_, fun hp => z3 fun x hx => ?_⟩
      · have : (z.take (pre ++ [v]).length).take pre.length = pre := by rw [z2, List.take_left' rfl]
        rw [List.take_take, List.length_append, List.length_singleton, Nat.min_eq_left (by omega)] at this
        exact this
      · rcases List.mem_append.1 hx with hx | hx
        · exact hp x hx
        · rw [List.mem_singleton] at hx; subst hx; exact k3 _ hv
theorem s_wk (h : TriesOk T q o) (h16 : ∀ t ∈ T, t.2.length ≤ 16) : ∀ (r : Nat) (pre : List Int), pre.length + r = o.length → ∀ m, r < m → loopF spec_l20Walk_R m (T, q, o, pre) = some (wk T q o r pre)
  | 0, pre, hr, m, hm => by
    obtain ⟨m, rfl⟩ : ∃ k, m = k + 1 := ⟨m - 1, by omega⟩
    have ho := ord_all h.ov
    have hqn := qry_n h.qv
    rw [loopF_succ, spec_l20Walk_R]
    rw [show ((List.length pre : Int) == (List.length o : Int)) = true by rw [beq_iff_eq]; omega]
    simp only [cond_true, List.nil_append]
    rw [chk_pos (by simp only [List.length_nil]; unfold lim; omega)]
    rfl
  | r + 1, pre, hr, m, hm => by
    obtain ⟨m, rfl⟩ : ∃ k, m = k + 1 := ⟨m - 1, by omega⟩
    have ho := ord_all h.ov
    have hqn := qry_n h.qv
    obtain ⟨k1, k2, k3⟩ := ky_few h h16 (pre := pre) (by omega)
    have h16r : 16 ^ r ≤ 1048576 := by
      have := Nat.pow_le_pow_right (show 0 < 16 by decide) (show r ≤ 5 by omega)
      exact this
    rw [loopF_succ, spec_l20Walk_R]
    rw [show ((List.length pre : Int) == (List.length o : Int)) = false by rw [beq_eq_false_iff_ne]; omega]
    simp only [cond_false]
    rw [s_keys h (by omega)]
    simp only [obind]
    have key : ∀ j, j ≤ (ky T q o pre).1.length → ((((ky T q o pre).1.take j).flatMap (fun v => (wk T q o r (pre ++ [v])).1))).length ≤ j * 16 ^ r := by
      intro j
      induction j with
      | zero => intro _; simp
      | succ j ih =>
        intro hj
        have h1 := ih (by omega)
        have h2 := (wk_few h h16 r (pre ++ [(ky T q o pre).1[j]]) (by rw [List.length_append, List.length_singleton]; omega)).1
        rw [List.take_succ_eq_append_getElem (by omega), List.flatMap_append, List.length_append, Nat.add_mul, Nat.one_mul, List.flatMap_cons, List.flatMap_nil, List.append_nil]
        omega
    have := loop_to (body := spec_l20Walk_B1 T q o pre (ky T q o pre) (loopF spec_l20Walk_R m)) (out := ((ky T q o pre).1.flatMap (fun v => (wk T q o r (pre ++ [v])).1), (ky T q o pre).1.foldl (fun n v => IntKind.i64.wrap (n + (wk T q o r (pre ++ [v])).2)) (ky T q o pre).2)) (fun j => (((ky T q o pre).1.take j).flatMap (fun v => (wk T q o r (pre ++ [v])).1), ((ky T q o pre).1.take j).foldl (fun n v => IntKind.i64.wrap (n + (wk T q o r (pre ++ [v])).2)) (ky T q o pre).2, (j : Int))) (ky T q o pre).1.length (fun j hj rec => by
      have hs := s_wk h h16 r (pre ++ [(ky T q o pre).1[j]]) (by rw [List.length_append, List.length_singleton]; omega) m (by omega)
      have h1 := key j (by omega)
      have h2 := (wk_few h h16 r (pre ++ [(ky T q o pre).1[j]]) (by rw [List.length_append, List.length_singleton]; omega)).1
      have h3 : j * 16 ^ r ≤ 16 * 1048576 := Nat.mul_le_mul (by omega) h16r
      unfold spec_l20Walk_B1
      simp only [List.nil_append]
      rw [lt_dec hj, geti_at hj]
      simp only [cond_true, obind]
      rw [chk_pos (by simp only [List.length_nil]; unfold lim; omega), chk_pos (by simp only [List.length_singleton]; unfold lim; omega), hs]
      simp only
      rw [chk_pos (by unfold lim; omega), List.take_succ_eq_append_getElem hj, List.flatMap_append, List.foldl_append, List.flatMap_cons, List.flatMap_nil, List.append_nil, wrap_s hj (by unfold maxLen; omega)]
      rfl) (fun rec => by unfold spec_l20Walk_B1; simp only; rw [nlt_dec, List.take_length]; rfl) fz (by unfold fz; omega)
    have h2 : loopF (spec_l20Walk_B1 T q o pre (ky T q o pre) (loopF spec_l20Walk_R m)) fz (([] : List (List Int)), (ky T q o pre).2, 0) = some ((ky T q o pre).1.flatMap (fun v => (wk T q o r (pre ++ [v])).1), (ky T q o pre).1.foldl (fun n v => IntKind.i64.wrap (n + (wk T q o r (pre ++ [v])).2)) (ky T q o pre).2) := this
    rw [h2]
    rfl
end
/-! ### the join -/
def emB (T : List Tri) : Bool := badAny T fun _ t => (t.2.length : Int) == 0
theorem s_em {T : List Tri} (hl : T.length ≤ lim) : spec_l20Empty T = some (emB T) := by
  unfold spec_l20Empty emB
  have := bad_loop (B := spec_l20Empty_B1 T) (n := T.length) (fun k => atB T k fun t => (t.2.length : Int) == 0) true hl (fun k hk rec => by
    unfold spec_l20Empty_B1
    rw [lt_dec hk, geti_at hk, wrap_s hk (lim_max hl), atB_lt hk]
    rfl) (fun rec => by unfold spec_l20Empty_B1; rw [nlt_dec]; rfl)
  rw [this]
  have e : (List.range T.length).any (fun k => atB T k fun t => (t.2.length : Int) == 0) = badAny T fun _ t => (t.2.length : Int) == 0 := rfl
  rw [e]
  cases badAny T fun _ t => (t.2.length : Int) == 0 <;> rfl
section
variable {d : List Tbl} {q : Qry} {o : List Int}
def trs (d : List Tbl) (q : Qry) (o : List Int) : List Tri := q.2.1.map (trieB d o)
theorem trs_16 (hf : qforB d q = true) (ho : ordB q o = true) : ∀ t ∈ trs d q o, t.2.length ≤ 16 := fun t ht => by
  unfold trs at ht
  obtain ⟨a, ha, rfl⟩ := List.mem_map.1 ht
  have g := q_fit hf
  obtain ⟨hok, hp⟩ := ab_perm g.1 ho ha (g.2.2 a ha)
  exact Nat.le_trans (proj_rel hp).2 (ab_rel hok (g.2.2 a ha)).2
def ljB (d : List Tbl) (q : Qry) (o : List Int) : (Int × List (List Int)) × Int × Bool := cond (qforB d q && ordB q o) (cond (emB (trs d q o)) (((o.length : Int), []), 0, true) (cond (nrB (o.length : Int) (wk (trs d q o) q o o.length []).1).2 ((nrB (o.length : Int) (wk (trs d q o) q o o.length []).1).1, (wk (trs d q o) q o o.length []).2, true) ((0, []), 0, false))) ((0, []), 0, false)
theorem wk_sm (hq : smQ q) (hf : qforB d q = true) (ho : ordB q o = true) : smRows (wk (trs d q o) q o o.length []).1 := by
  have hod := ord_all ho
  have hqn := qry_n (q_fit hf).1
  obtain ⟨w1, w2⟩ := wk_few (tries_ok (d := d) hq hf ho) (trs_16 hf ho) o.length [] (by simp)
  have h16 : 16 ^ o.length ≤ 1048576 := by
    have := Nat.pow_le_pow_right (show 0 < 16 by decide) (show o.length ≤ 5 by omega)
    exact this
  exact ⟨Nat.le_trans w1 (by unfold lim; omega), fun r hr => by have := (w2 r hr).1; unfold lim; omega⟩
theorem s_lj (h : smDb d) (hq : smQ q) (ho : o.length ≤ lim) : spec_LeapfrogJoin d q o = some (ljB d q o) := by
  unfold spec_LeapfrogJoin ljB
  rw [s_tries h hq ho]
  unfold triesB
  cases hf : qforB d q with
  | false => rfl
  | true =>
    cases hor : ordB q o with
    | false => rfl
    | true =>
      simp only [Bool.and_self, cond_true, obind, Bool.not_true, cond_false]
      have hT := tries_ok (d := d) hq hf hor
      rw [show q.2.1.map (trieB d o) = trs d q o from rfl] at hT ⊢
      rw [s_em (by rw [hT.len]; exact hq.1)]
      simp only
      cases emB (trs d q o) with
      | true => rfl
      | false =>
        have hw := s_wk hT (trs_16 hf hor) o.length [] (by simp) fz (by have := ord_all hor; have := qry_n hT.qv; unfold fz; omega)
        have hw : spec_l20Walk (trs d q o) q o [] = some (wk (trs d q o) q o o.length []) := hw
        simp only [cond_false]
        rw [hw]
        simp only
        rw [s_nr (wk_sm hq hf hor)]
        simp only
        cases (nrB (o.length : Int) (wk (trs d q o) q o o.length []).1).2 <;> rfl
theorem nr_sm {a : Int} {l : List Row} (h : smRows l) : smRows (nrB a l).1.2 := by
  unfold nrB
  cases badAny l fun _ x => nrBad a x with
  | true => exact ⟨Nat.zero_le _, fun r hr => (by cases hr)⟩
  | false =>
    simp only [cond_false]
    cases relB (a, sortB l) with
    | false => exact ⟨Nat.zero_le _, fun r hr => (by cases hr)⟩
    | true => exact sort_sm h
theorem lj_sm (hq : smQ q) : smRows (ljB d q o).1.2 := by
  unfold ljB
  cases hf : qforB d q with
  | false => exact ⟨Nat.zero_le _, fun r hr => (by cases hr)⟩
  | true =>
    cases hor : ordB q o with
    | false => exact ⟨Nat.zero_le _, fun r hr => (by cases hr)⟩
    | true =>
      simp only [Bool.and_self, cond_true]
      cases emB (trs d q o) with
      | true => exact ⟨Nat.zero_le _, fun r hr => (by cases hr)⟩
      | false =>
        simp only [cond_false]
        cases (nrB (o.length : Int) (wk (trs d q o) q o o.length []).1).2 with
        | false => exact ⟨Nat.zero_le _, fun r hr => (by cases hr)⟩
        | true => exact nr_sm (wk_sm hq hf hor)
/-- the row behind the last one -/
def njB (d : List Tbl) (q : Qry) (o last : List Int) : List Int × Bool := cond (ljB d q o).2.2 (match (ljB d q o).1.2.find? fun r => ((last.length : Int) == 0) || decide (0 < cmpB r last) with
  | some r => (r, true)
  | none => ([], false)) ([], false)
theorem nj_sm (hq : smQ q) (last : List Int) : (njB d q o last).1.length ≤ lim := by
  unfold njB
  have hs := lj_sm (d := d) (o := o) hq
  cases (ljB d q o).2.2 with
  | false => exact Nat.zero_le _
  | true =>
    simp only [cond_true]
    cases he : (ljB d q o).1.2.find? fun r => ((last.length : Int) == 0) || decide (0 < cmpB r last) with
    | none => exact Nat.zero_le _
    | some r => exact hs.2 r (List.mem_of_find?_eq_some he)
end
end Go.Proofs.YtlknpohjnpnodaaGreat
