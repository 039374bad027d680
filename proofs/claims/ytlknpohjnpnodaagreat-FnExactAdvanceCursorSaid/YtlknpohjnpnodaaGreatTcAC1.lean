/-
  The children of a trie, and the bound from degrees: the reference and the program agree. On the printed functions; conditions: the query fits.
-/
import Derived.Test.YtlknpohjnpnodaaGreatTtAC1
-- pure
namespace Go.Proofs.YtlknpohjnpnodaaGreat
open Go.RowKit
set_option linter.unusedVariables false
set_option linter.unusedSimpArgs false
abbrev Tri := Int × List (List Int)
theorem sub_le {r : List Int} {lo hi : Int} : (subl r lo hi).length ≤ r.length := by
  unfold subl
  rw [List.length_drop, List.length_take]; omega
theorem range_1 {t : Tri} {pre : List Int} (h : smRows t.2) : impl_TriePrefixRange_B1 t pre = spec_TriePrefixRange_B1 t pre := by
  funext rec y
  rw [impl_TriePrefixRange_B1, spec_TriePrefixRange_B1]
  cases hg : geti t.2 y with
  | none => rfl
  | some e =>
    have hm : e ∈ t.2 := List.mem_of_getElem? (geti_some hg).2.2
    have hl : (subl e 0 (pre.length : Int)).length ≤ lim := Nat.le_trans sub_le (h.2 e hm)
    rw [ob_s, ob_s, s_cmp hl, i_cmp hl]
theorem range_2 {t : Tri} {pre : List Int} (h : smRows t.2) : impl_TriePrefixRange_B2 t pre = spec_TriePrefixRange_B2 t pre := by
  funext rec y
  rw [impl_TriePrefixRange_B2, spec_TriePrefixRange_B2]
  cases hg : geti t.2 y with
  | none => rfl
  | some e =>
    have hm : e ∈ t.2 := List.mem_of_getElem? (geti_some hg).2.2
    have hl : (subl e 0 (pre.length : Int)).length ≤ lim := Nat.le_trans sub_le (h.2 e hm)
    rw [ob_s, ob_s, s_cmp hl, i_cmp hl]
/-- a valid trie and a prefix -/
def TriOk (t : Tri) (n : Nat) : Prop := relB t = true ∧ (n : Int) ≤ t.1
theorem tri_sm {t : Tri} {n : Nat} (h : TriOk t n) : smRows t.2 ∧ t.2.length ≤ 4000 ∧ ∀ r ∈ t.2, (r.length : Int) = t.1 ∧ r.length ≤ 5 := by
  have h1 := rel_rows h.1
  exact ⟨⟨by have := h1.2.2.1; unfold lim; omega, fun x hx => by have := (h1.2.2.2 x hx).1; unfold lim; omega⟩, h1.2.2.1, fun r hr => ⟨(h1.2.2.2 r hr).1, by have := (h1.2.2.2 r hr).1; omega⟩⟩
theorem range_lo {t : Tri} {pre : List Int} (h : TriOk t pre.length) : ∃ o, loopF (spec_TriePrefixRange_B1 t pre) fz 0 = some o ∧ ∃ k : Nat, o = (k : Int) ∧ k ≤ t.2.length := by
  obtain ⟨h1, h2, h3⟩ := tri_sm h
  refine loop_wh (B := spec_TriePrefixRange_B1 t pre) (fun s => ∃ k : Nat, s = (k : Int) ∧ k ≤ t.2.length) (fun s => t.2.length - s.toNat) (fun o => ∃ k : Nat, o = (k : Int) ∧ k ≤ t.2.length) ?_ fz 0 ⟨0, rfl, by omega⟩ (by unfold fz; omega)
  rintro s ⟨k, rfl, hk⟩
  rcases Nat.lt_or_ge k t.2.length with hlt | hge
  · have hr := h3 _ (List.getElem_mem hlt)
    have hl : (subl t.2[k] 0 (pre.length : Int)).length ≤ lim := Nat.le_trans sub_le (h1.2 _ (List.getElem_mem hlt))
    have e : ∀ rec, spec_TriePrefixRange_B1 t pre rec (k : Int) = cond (decide (cmpB (subl t.2[k] 0 (pre.length : Int)) pre < 0)) (rec ((k + 1 : Nat) : Int)) (some (k : Int)) := fun rec => by
      rw [spec_TriePrefixRange_B1]
      rw [lt_dec hlt, geti_at hlt, wrap_s hlt (lim_max h1.1), cond_true, ob_s, chk_pos (by have := h.2; omega), s_cmp hl, ob_s]
    cases hc : decide (cmpB (subl t.2[k] 0 (pre.length : Int)) pre < 0) with
    | true => exact .inr ⟨((k + 1 : Nat) : Int), ⟨k + 1, rfl, hlt⟩, by rw [Int.toNat_natCast, Int.toNat_natCast]; omega, fun rec => by rw [e, hc]; rfl⟩
    | false => exact .inl ⟨(k : Int), ⟨k, rfl, hk⟩, fun rec => by rw [e, hc]; rfl⟩
  · refine .inl ⟨(k : Int), ⟨k, rfl, hk⟩, fun rec => ?_⟩
    rw [spec_TriePrefixRange_B1]
    rw [decide_eq_false (by omega : ¬ (k : Int) < (t.2.length : Int))]; rfl
theorem range_hi {t : Tri} {pre : List Int} (h : TriOk t pre.length) {lo : Nat} (hlo : lo ≤ t.2.length) : ∃ o, loopF (spec_TriePrefixRange_B2 t pre) fz (lo : Int) = some o ∧ ∃ k : Nat, o = (k : Int) ∧ lo ≤ k ∧ k ≤ t.2.length := by
  obtain ⟨h1, h2, h3⟩ := tri_sm h
  refine loop_wh (B := spec_TriePrefixRange_B2 t pre) (fun s => ∃ k : Nat, s = (k : Int) ∧ lo ≤ k ∧ k ≤ t.2.length) (fun s => t.2.length - s.toNat) (fun o => ∃ k : Nat, o = (k : Int) ∧ lo ≤ k ∧ k ≤ t.2.length) ?_ fz (lo : Int) ⟨lo, rfl, Nat.le_refl _, hlo⟩ (by unfold fz; omega)
  rintro s ⟨k, rfl, hk0, hk⟩
  rcases Nat.lt_or_ge k t.2.length with hlt | hge
  · have hr := h3 _ (List.getElem_mem hlt)
    have hl : (subl t.2[k] 0 (pre.length : Int)).length ≤ lim := Nat.le_trans sub_le (h1.2 _ (List.getElem_mem hlt))
    have e : ∀ rec, spec_TriePrefixRange_B2 t pre rec (k : Int) = cond (cmpB (subl t.2[k] 0 (pre.length : Int)) pre == 0) (rec ((k + 1 : Nat) : Int)) (some (k : Int)) := fun rec => by
      rw [spec_TriePrefixRange_B2]
      rw [lt_dec hlt, geti_at hlt, wrap_s hlt (lim_max h1.1), cond_true, ob_s, chk_pos (by have := h.2; omega), s_cmp hl, ob_s]
    cases hc : (cmpB (subl t.2[k] 0 (pre.length : Int)) pre == 0) with
    | true => exact .inr ⟨((k + 1 : Nat) : Int), ⟨k + 1, rfl, by omega, hlt⟩, by rw [Int.toNat_natCast, Int.toNat_natCast]; omega, fun rec => by rw [e, hc]; rfl⟩
    | false => exact .inl ⟨(k : Int), ⟨k, rfl, hk0, hk⟩, fun rec => by rw [e, hc]; rfl⟩
  · refine .inl ⟨(k : Int), ⟨k, rfl, hk0, hk⟩, fun rec => ?_⟩
    rw [spec_TriePrefixRange_B2]
    rw [decide_eq_false (by omega : ¬ (k : Int) < (t.2.length : Int))]; rfl
theorem range_s {t : Tri} {pre : List Int} (h : TriOk t pre.length) : ∃ lo hi : Nat, lo ≤ hi ∧ hi ≤ t.2.length ∧ loopF (spec_TriePrefixRange_B1 t pre) fz 0 = some (lo : Int) ∧ loopF (spec_TriePrefixRange_B2 t pre) fz (lo : Int) = some (hi : Int) ∧ spec_TriePrefixRange t pre = some ((lo : Int), (hi : Int)) := by
  obtain ⟨h1, h2, h3⟩ := tri_sm h
  obtain ⟨o1, e1, lo, rfl, hlo⟩ := range_lo h
  obtain ⟨o2, e2, hi, rfl, hhi⟩ := range_hi h hlo
  refine ⟨lo, hi, hhi.1, hhi.2, e1, e2, ?_⟩
  unfold spec_TriePrefixRange spec_IsValidTrie spec_l16Rel
  rw [ob_s, s_rel h1, ob_s, ob_s, h.1, Bool.not_true, cond_false, decide_eq_false (by have := h.2; omega), cond_false, e1, ob_s, e2, ob_s]
theorem range_i {t : Tri} {pre : List Int} (h : TriOk t pre.length) {lo hi : Nat} (e1 : loopF (spec_TriePrefixRange_B1 t pre) fz 0 = some (lo : Int)) (e2 : loopF (spec_TriePrefixRange_B2 t pre) fz (lo : Int) = some (hi : Int)) : impl_TriePrefixRange t pre = some ((lo : Int), (hi : Int)) := by
  obtain ⟨h1, h2, h3⟩ := tri_sm h
  unfold impl_TriePrefixRange impl_IsValidTrie impl_asRelation
  rw [decide_eq_false (by have := h.2; omega), cond_false, ob_s, i_rel h1, ob_s, ob_s, h.1, Bool.not_true, cond_false, range_1 h1, range_2 h1, e1, ob_s, e2, ob_s]
/-- is the value another one than the last? -/
def pushB (out : List Int) (v : Int) : Bool := match out.getLast? with
  | none => true
  | some x => x != v
def chK (S : List (List Int)) (p : Nat) : Nat → List Int
  | 0 => []
  | k + 1 => chK S p k ++ cond (pushB (chK S p k) (atI ((S[k]?).getD []) (p : Int))) [atI ((S[k]?).getD []) (p : Int)] []
theorem chK_len (S : List (List Int)) (p : Nat) : ∀ k, (chK S p k).length ≤ k
  | 0 => by simp [chK]
  | k + 1 => by
    have := chK_len S p k
    rw [chK, List.length_append]
    cases pushB (chK S p k) (atI ((S[k]?).getD []) (p : Int))
    · rw [cond_false, List.length_nil]; omega
    · rw [cond_true, List.length_singleton]; omega
/-- the last of a list, as the program looks at it -/
theorem last_look {out : List Int} (h : out.length ≤ 4000) (v : Int) {α : Type} (f : Bool → Option α) : cond ((out.length : Int) == 0) (f true) (obind (geti out (IntKind.i64.wrap ((out.length : Int) - 1))) fun e => f (e != v)) = f (pushB out v) := by
  by_cases h0 : out.length = 0
  · have : out = [] := List.eq_nil_of_length_eq_zero h0
    subst this; rfl
  · have hj : out.length - 1 < out.length := by omega
    have e : ((out.length : Int) == 0) = false := by rw [beq_eq_false_iff_ne]; omega
    rw [e, cond_false, wrap_in (by omega), show (out.length : Int) - 1 = ((out.length - 1 : Nat) : Int) by omega, geti_at hj, ob_s]
    unfold pushB
    rw [List.getLast?_eq_getElem?, List.getElem?_eq_getElem hj]
theorem ch_s {t : Tri} {pre : List Int} (h : TriOk t pre.length) {lo hi : Nat} (hlh : lo ≤ hi) (hhi : hi ≤ t.2.length) (es : spec_TriePrefixRange t pre = some ((lo : Int), (hi : Int))) : spec_TrieChildren t pre = some (if (pre.length : Int) < t.1 then chK (subl t.2 (lo : Int) (hi : Int)) pre.length (hi - lo) else []) := by
  obtain ⟨h1, h2, h3⟩ := tri_sm h
  by_cases hp : (pre.length : Int) < t.1
  · rw [if_pos hp]
    have hSl : (subl t.2 (lo : Int) (hi : Int)).length = hi - lo := by
      unfold subl; rw [Int.toNat_natCast, Int.toNat_natCast, List.length_drop, List.length_take]; omega
    have hS : ∀ k, k < hi - lo → (subl t.2 (lo : Int) (hi : Int))[k]? = t.2[lo + k]? := fun k hk => by
      unfold subl
      rw [Int.toNat_natCast, Int.toNat_natCast, List.getElem?_drop, List.getElem?_take, if_pos (by omega)]
    have hat : ∀ k, k < hi - lo → ∃ r, t.2[lo + k]? = some r ∧ r ∈ t.2 ∧ geti r (pre.length : Int) = some (atI r (pre.length : Int)) := fun k hk => by
      have hlt : lo + k < t.2.length := by omega
      have hr := h3 _ (List.getElem_mem hlt)
      exact ⟨_, List.getElem?_eq_getElem hlt, List.getElem_mem hlt, by rw [geti_at (by omega), atI_n (by omega)]⟩
    unfold spec_TrieChildren
    rw [es, ob_s]
    have := loop_to (body := spec_TrieChildren_B1 t pre ((lo : Int), (hi : Int))) (out := chK (subl t.2 (lo : Int) (hi : Int)) pre.length (hi - lo)) (fun k => (chK (subl t.2 (lo : Int) (hi : Int)) pre.length k, ((lo + k : Nat) : Int))) (hi - lo) (fun k hk rec => by
      obtain ⟨r, e1, hm, e2⟩ := hat k hk
      have hl := chK_len (subl t.2 (lo : Int) (hi : Int)) pre.length k
      have hJ : ∀ b : Bool, spec_TrieChildren_J2 rec (chK (subl t.2 (lo : Int) (hi : Int)) pre.length k) ((lo + k : Nat) : Int) (atI r (pre.length : Int)) b = rec (chK (subl t.2 (lo : Int) (hi : Int)) pre.length k ++ cond b [atI r (pre.length : Int)] [], ((lo + (k + 1) : Nat) : Int)) := fun b => by
        have hw : IntKind.i64.wrap (((lo + k : Nat) : Int) + 1) = ((lo + (k + 1) : Nat) : Int) := by rw [wrap_in (by omega)]; omega
        rw [spec_TrieChildren_J2]
        cases b with
        | true => rw [cond_true, chk_pos (by simp only [List.length_singleton]; unfold lim; omega), spec_TrieChildren_J3, hw]; rfl
        | false => rw [cond_false, spec_TrieChildren_J3, hw, cond_false, List.append_nil]
      rw [spec_TrieChildren_B1, chK, hS k hk, e1]
      rw [decide_eq_true (by omega : ((lo + k : Nat) : Int) < (hi : Int)), cond_true, decide_eq_true hp, cond_true, geti_nat, e1, ob_s, e2, ob_s, Option.getD_some]
      rw [last_look (by omega) (atI r (pre.length : Int)) (fun b => spec_TrieChildren_J2 rec (chK (subl t.2 (lo : Int) (hi : Int)) pre.length k) ((lo + k : Nat) : Int) (atI r (pre.length : Int)) b), hJ]) (fun rec => by
      rw [spec_TrieChildren_B1]
      rw [decide_eq_false (by omega : ¬ ((lo + (hi - lo) : Nat) : Int) < (hi : Int))]; rfl) fz (by unfold fz; omega)
    rw [show ((([] : List Int), (lo : Int))) = (chK (subl t.2 (lo : Int) (hi : Int)) pre.length 0, ((lo + 0 : Nat) : Int)) from rfl, this]
    rfl
  · rw [if_neg hp]
    unfold spec_TrieChildren
    rw [es, ob_s]
    have : loopF (spec_TrieChildren_B1 t pre ((lo : Int), (hi : Int))) fz (([] : List Int), (lo : Int)) = some [] := loop_to (body := spec_TrieChildren_B1 t pre ((lo : Int), (hi : Int))) (fun _ => (([] : List Int), (lo : Int))) 0 (fun k hk => absurd hk (by omega)) (fun rec => by
      rw [spec_TrieChildren_B1]
      rw [decide_eq_false hp]
      cases decide ((lo : Int) < (hi : Int)) <;> rfl) fz (by unfold fz; omega)
    rw [show (((lo : Int), (hi : Int)) : Int × Int).1 = (lo : Int) from rfl, this]
    rfl
theorem ch_im {t : Tri} {pre : List Int} (h : TriOk t pre.length) {lo hi : Nat} (hlh : lo ≤ hi) (hhi : hi ≤ t.2.length) (ei : impl_TriePrefixRange t pre = some ((lo : Int), (hi : Int))) : impl_TrieChildren t pre = some (if (pre.length : Int) < t.1 then chK (subl t.2 (lo : Int) (hi : Int)) pre.length (hi - lo) else []) := by
  obtain ⟨h1, h2, h3⟩ := tri_sm h
  by_cases hp : (pre.length : Int) < t.1
  · rw [if_pos hp]
    have hSl : (subl t.2 (lo : Int) (hi : Int)).length = hi - lo := by
      unfold subl; rw [Int.toNat_natCast, Int.toNat_natCast, List.length_drop, List.length_take]; omega
    have hS : ∀ k, k < hi - lo → (subl t.2 (lo : Int) (hi : Int))[k]? = t.2[lo + k]? := fun k hk => by
      unfold subl
      rw [Int.toNat_natCast, Int.toNat_natCast, List.getElem?_drop, List.getElem?_take, if_pos (by omega)]
    have hat : ∀ k, k < hi - lo → ∃ r, t.2[lo + k]? = some r ∧ r ∈ t.2 ∧ geti r (pre.length : Int) = some (atI r (pre.length : Int)) := fun k hk => by
      have hlt : lo + k < t.2.length := by omega
      have hr := h3 _ (List.getElem_mem hlt)
      exact ⟨_, List.getElem?_eq_getElem hlt, List.getElem_mem hlt, by rw [geti_at (by omega), atI_n (by omega)]⟩
    unfold impl_TrieChildren
    rw [decide_eq_false (by omega : ¬ t.1 ≤ (pre.length : Int)), cond_false]
    unfold impl_IsValidTrie impl_asRelation
    rw [ob_s, i_rel h1, ob_s, ob_s, h.1, Bool.not_true, cond_false, ei, ob_s, chk_pos (by simp only; omega)]
    have := loop_to (body := impl_TrieChildren_B1 t pre ((lo : Int), (hi : Int))) (out := chK (subl t.2 (lo : Int) (hi : Int)) pre.length (hi - lo)) (fun k => (chK (subl t.2 (lo : Int) (hi : Int)) pre.length k, (k : Int))) (hi - lo) (fun k hk rec => by
      obtain ⟨r, e1, hm, e2⟩ := hat k hk
      have hl := chK_len (subl t.2 (lo : Int) (hi : Int)) pre.length k
      have hJ : ∀ b : Bool, impl_TrieChildren_J2 rec pre (chK (subl t.2 (lo : Int) (hi : Int)) pre.length k) (k : Int) r b = rec (chK (subl t.2 (lo : Int) (hi : Int)) pre.length k ++ cond b [atI r (pre.length : Int)] [], ((k + 1 : Nat) : Int)) := fun b => by
        have hw : IntKind.i64.wrap ((k : Int) + 1) = ((k + 1 : Nat) : Int) := by rw [wrap_in (by omega)]; omega
        rw [impl_TrieChildren_J2]
        cases b with
        | true => rw [cond_true, e2, ob_s, chk_pos (by simp only [List.length_singleton]; unfold lim; omega), impl_TrieChildren_J3, hw]; rfl
        | false => rw [cond_false, impl_TrieChildren_J3, hw, cond_false, List.append_nil]
      rw [impl_TrieChildren_B1, chK]
      rw [hSl, decide_eq_true (by omega : (k : Int) < ((hi - lo : Nat) : Int)), cond_true, geti_nat, hS k hk, e1, ob_s, e2, Option.getD_some]
      simp only [ob_s]
      rw [last_look (by omega) (atI r (pre.length : Int)) (fun b => impl_TrieChildren_J2 rec pre (chK (subl t.2 (lo : Int) (hi : Int)) pre.length k) (k : Int) r b), hJ]) (fun rec => by
      rw [impl_TrieChildren_B1]
      rw [hSl, nlt_dec]; rfl) fz (by unfold fz; omega)
    rw [show ((([] : List Int), (0 : Int))) = (chK (subl t.2 (lo : Int) (hi : Int)) pre.length 0, ((0 : Nat) : Int)) from rfl, this]
    rfl
  · rw [if_neg hp]
    unfold impl_TrieChildren
    rw [decide_eq_true (by omega : t.1 ≤ (pre.length : Int))]; rfl
def chB (t : Tri) (pre : List Int) : List Int := (spec_TrieChildren t pre).getD []
theorem s_ch {t : Tri} {pre : List Int} (h : TriOk t pre.length) : spec_TrieChildren t pre = some (chB t pre) := by
  obtain ⟨lo, hi, h1, h2, _, _, e⟩ := range_s h
  unfold chB; rw [ch_s h h1 h2 e]; rfl
theorem i_ch {t : Tri} {pre : List Int} (h : TriOk t pre.length) : impl_TrieChildren t pre = some (chB t pre) := by
  obtain ⟨lo, hi, h1, h2, e1, e2, e⟩ := range_s h
  unfold chB; rw [ch_s h h1 h2 e, ch_im h h1 h2 (range_i h e1 e2)]; rfl
/-- the atoms with a variable -/
def ixK (q : Qry) (v : Int) (k : Nat) : List Nat := (List.range k).filter fun i => atB q.2.1 i fun a => a.2.contains v
theorem ixK_s (q : Qry) (v : Int) (k : Nat) : ixK q v (k + 1) = ixK q v k ++ cond (atB q.2.1 k fun a => a.2.contains v) [k] [] := by
  unfold ixK
  rw [List.range_succ, List.filter_append, List.filter_cons, List.filter_nil]
  cases (atB q.2.1 k fun a => a.2.contains v) <;> rfl
theorem ixK_len (q : Qry) (v : Int) (k : Nat) : (ixK q v k).length ≤ k := by
  unfold ixK
  exact Nat.le_trans (List.length_filter_le _ _) (by simp)
def ixB (q : Qry) (v : Int) : List Int := (ixK q v q.2.1.length).map fun (i : Nat) => (i : Int)
theorem s_ix {q : Qry} (hq : smQ q) (hv : qryB q = true) (v : Int) : spec_AtomsWithVariable q v = some (ixB q v) := by
  unfold spec_AtomsWithVariable
  have hlim := hq.1
  have h4 := (qry_in hv).2.2.1
  have := loop_to (body := spec_AtomsWithVariable_B1 q v) (out := ixB q v) (fun k => ((ixK q v k).map fun (i : Nat) => (i : Int), (k : Int))) q.2.1.length (fun k hk rec => by
    have hl := ixK_len q v k
    have hJ : ∀ y, spec_AtomsWithVariable_J2 rec (k : Int) y = rec (y, ((k + 1 : Nat) : Int)) := fun y => by rw [spec_AtomsWithVariable_J2, wrap_s hk (lim_max hq.1)]
    rw [spec_AtomsWithVariable_B1, ixK_s, atB_lt hk, List.map_append]
    rw [lt_dec hk, cond_true, s_query hq, ob_s, hv, cond_true, geti_at hk, ob_s, s_cv (hq.2.1 _ (List.getElem_mem hk)).2, ob_s, hJ, hJ]
    cases q.2.1[k].2.contains v with
    | true => rw [cond_true, chk_pos (by rw [List.length_map]; simp only [List.length_singleton]; unfold lim; omega)]; rfl
    | false => rw [cond_false, cond_false, List.map_nil, List.append_nil]) (fun rec => by rw [spec_AtomsWithVariable_B1]; rw [nlt_dec]; rfl) fz (lt_fz hq.1)
  rw [show ((([] : List Int), (0 : Int))) = ((ixK q v 0).map fun (i : Nat) => (i : Int), ((0 : Nat) : Int)) from rfl, this]
  rfl
theorem ix_mem {q : Qry} {v : Int} {i : Nat} (h : i ∈ ixK q v q.2.1.length) : ∃ hi : i < q.2.1.length, (q.2.1[i]).2.contains v = true := by
  unfold ixK at h
  have h1 := List.mem_filter.1 h
  have h2 := List.mem_range.1 h1.1
  exact ⟨h2, by have := h1.2; rw [atB_lt h2] at this; exact this⟩
/-- how many variables of an atom stand before a place of the order -/
def depB (a : Atm) (o : List Int) (k : Nat) : Nat := ((o.take k).filter a.2.contains).length
theorem dep_s (a : Atm) {o : List Int} {k : Nat} (hk : k < o.length) : depB a o (k + 1) = depB a o k + cond (a.2.contains o[k]) 1 0 := by
  unfold depB
  rw [filt_s _ hk, List.length_append]
  cases a.2.contains o[k] <;> rfl
theorem dep_le (a : Atm) (o : List Int) (k : Nat) : depB a o k ≤ k := by
  unfold depB
  exact Nat.le_trans (List.length_filter_le _ _) (by simp; omega)
/-- what the tries of a query are -/
structure TriesOk (T : List Tri) (q : Qry) (o : List Int) : Prop where
  sm : smQ q
  qv : qryB q = true
  ov : ordB q o = true
  len : T.length = q.2.1.length
  rel : ∀ (i : Nat) (hi : i < q.2.1.length), relB (T[i]'(by rw [len]; exact hi)) = true ∧ (T[i]'(by rw [len]; exact hi)).1 = ((avL q.2.1[i] 5).length : Int)
theorem tri_dep {T : List Tri} {q : Qry} {o : List Int} (h : TriesOk T q o) {i k : Nat} (hi : i < q.2.1.length) (hk : k ≤ o.length) : TriOk (T[i]'(by rw [h.len]; exact hi)) (depB q.2.1[i] o k) := by
  have h1 := h.rel i hi
  refine ⟨h1.1, ?_⟩
  rw [h1.2]
  have ho := ord_all h.ov
  have hq := qry_n h.qv
  have : ((o.take k).filter q.2.1[i].2.contains).length ≤ (avL q.2.1[i] 5).length := nd_len ((ho.2.1.sublist (List.take_sublist _ _)).sublist List.filter_sublist) fun v hv => by
    have h2 := List.mem_filter.1 hv
    have h3 := ho.2.2.1 v (List.mem_of_mem_take h2.1)
    exact av_mem.2 ⟨by omega, h2.2⟩
  unfold depB
  omega
/-- each variable stands in an atom -/
theorem ix_pos {q : Qry} (hv : qryB q = true) {v : Int} (h0 : 0 ≤ v) (h1 : v < q.1) : (ixK q v q.2.1.length).length ≠ 0 := by
  unfold qryB at hv
  simp only [Bool.and_eq_true, Bool.not_eq_true'] at hv
  have h2 := hv.2.2.2.2
  have h3 := List.any_eq_false.1 h2 v.toNat (List.mem_range.2 (by omega))
  rw [show ((v.toNat : Nat) : Int) = v by omega] at h3
  simp only [Bool.not_eq_true, Bool.not_eq_false'] at h3
  unfold usedB at h3
  obtain ⟨a, ha, hc⟩ := List.any_eq_true.1 h3
  obtain ⟨i, hi, rfl⟩ := List.mem_iff_getElem.1 ha
  have : i ∈ ixK q v q.2.1.length := by
    unfold ixK
    exact List.mem_filter.2 ⟨List.mem_range.2 hi, by rw [atB_lt hi]; exact hc⟩
  intro e
  rw [List.eq_nil_of_length_eq_zero e] at this
  cases this
theorem tries_ok {d : List Tbl} {q : Qry} {o : List Int} (hq : smQ q) (hf : qforB d q = true) (ho : ordB q o = true) : TriesOk (q.2.1.map (trieB d o)) q o := by
  have hfit := q_fit hf
  refine ⟨hq, hfit.1, ho, by rw [List.length_map], fun i hi => ?_⟩
  have hmem := List.getElem_mem hi
  obtain ⟨hok, hp⟩ := ab_perm hfit.1 ho hmem (hfit.2.2 _ hmem)
  rw [List.getElem_map]
  refine ⟨(proj_rel hp).1, ?_⟩
  show ((colB q.2.1[i] o).length : Int) = _
  exact hp.2.1
end Go.Proofs.YtlknpohjnpnodaaGreat
