/-
  Certificates read from text: the printed functions on lists of rationals and names. On the printed functions; conditions: lengths and ranges.
-/
import Derived.Test.YtkcfahfladikkaaPdQ1
-- pure
namespace Go.Proofs.Ytkcfahfladikkaa
open Go.RowKit
set_option linter.unusedVariables false
set_option linter.unusedSimpArgs false
theorem read_loop {α β O : Type} {B : (List β × Int → Option (Sum (List β) O)) → List β × Int → Option (Sum (List β) O)} {ws : List α} (f : α → Option β) (bad : O) (hl : ws.length ≤ lim)
    (h1 : ∀ k (hk : k < ws.length) (acc : List β) rec, acc.length = k → B rec (acc, (k : Int)) = match f ws[k] with
      | some y => rec (acc ++ [y], ((k + 1 : Nat) : Int))
      | none => some (.inr bad)) (h2 : ∀ acc rec, B rec (acc, (ws.length : Int)) = some (.inl acc)) :
    loopF B fz ([], 0) = some (match mapO f ws with
      | some ys => .inl ys
      | none => .inr bad) := by
  have key : ∀ (d k : Nat) (acc : List β) (m : Nat), k + d = ws.length → acc.length = k → d < m → loopF B m (acc, (k : Int)) = some (match mapO f (ws.drop k) with
      | some ys => .inl (acc ++ ys)
      | none => .inr bad) := by
    intro d
    induction d with
    | zero =>
      intro k acc m hk ha hm
      obtain rfl : k = ws.length := by omega
      cases m with
      | zero => omega
      | succ m => rw [loopF_succ, h2, List.drop_length]; simp [mapO]
    | succ d ih =>
      intro k acc m hk ha hm
      have hk' : k < ws.length := by omega
      cases m with
      | zero => omega
      | succ m =>
        rw [loopF_succ, h1 k hk' acc _ ha, List.drop_eq_getElem_cons hk', mapO]
        cases hf : f ws[k] with
        | none => rfl
        | some y =>
          simp only
          rw [ih (k + 1) (acc ++ [y]) m (by omega) (by simp [ha]) (by omega)]
          cases hm2 : mapO f (ws.drop (k + 1)) with
          | none => rfl
          | some ys => simp
  have := key ws.length 0 [] fz (by omega) rfl (lt_fz hl)
  rw [List.drop_zero] at this
  rw [show ((([] : List β), (0 : Int))) = ([], ((0 : Nat) : Int)) from rfl, this]
  cases mapO f ws <;> simp
/-- a list of rationals and whether it was read -/
def okQs : Option (List (Int × Int)) → List (Int × Int) × Bool
  | some v => (v, true)
  | none => ([], false)
theorem cut_lim (c : UInt8) {s : List UInt8} (hl : s.length ≤ 1048576) : (cutB c s).length ≤ 1048577 ∧ ∀ w ∈ cutB c s, w.length ≤ 1048576 :=
  ⟨by have := cut_len c s; omega, fun w hw => by have := cut_mem c s w hw; omega⟩
theorem s_prats {s : List UInt8} (hl : s.length ≤ 1048576) : spec_ParseRationals s = some (okQs (rtsB vRat s)) := by
  obtain ⟨hc, hw⟩ := cut_lim 32 hl
  unfold spec_ParseRationals rtsB
  rw [nil_beq]
  by_cases h : s = []
  · rw [decide_eq_true h, cond_true, if_pos h]; rfl
  · rw [decide_eq_false h, cond_false, if_neg h, s_cut 32 (a := 32) rfl hl, obs]
    rw [read_loop (ws := cutB 32 s) (rtB vRat) (([] : List (Int × Int)), false) (by unfold lim; omega) (fun k hk acc rec ha => by
      rw [spec_ParseRationals_B1]
      rw [lt_dec hk, cond_true, geti_at hk, obs, s_prat (hw _ (List.getElem_mem hk)), obs, wrap_in (by omega)]
      cases rtB vRat (cutB 32 s)[k] with
      | none => rfl
      | some y =>
        show cond (!true) _ _ = _
        rw [Bool.not_true, cond_false, chk_pos (by simp only [List.length_singleton]; unfold lim; omega)]
        rfl) (fun acc rec => by rw [spec_ParseRationals_B1]; rw [nlt_dec]; rfl), obs]
    cases mapO (rtB vRat) (cutB 32 s) <;> rfl
theorem i_prats {s : List UInt8} (hl : s.length ≤ 1048576) : impl_ParseRationals s = some (okQs (rtsB vRat s)) := by
  obtain ⟨hc, hw⟩ := cut_lim 32 hl
  unfold impl_ParseRationals rtsB
  rw [nil_beq]
  by_cases h : s = []
  · rw [decide_eq_true h, cond_true, if_pos h]; rfl
  · rw [decide_eq_false h, cond_false, if_neg h, i_cut 32 (a := 32) rfl hl, obs]
    rw [read_loop (ws := cutB 32 s) (rtB vRat) (([] : List (Int × Int)), false) (by unfold lim; omega) (fun k hk acc rec ha => by
      rw [impl_ParseRationals_B1]
      rw [lt_dec hk, cond_true, geti_at hk, obs, prat_same (hw _ (List.getElem_mem hk)), obs, wrap_in (by omega)]
      cases rtB vRat (cutB 32 s)[k] with
      | none => rfl
      | some y =>
        show cond (!true) _ _ = _
        rw [Bool.not_true, cond_false, chk_pos (by simp only [List.length_singleton]; unfold lim; omega)]
        rfl) (fun acc rec => by rw [impl_ParseRationals_B1]; rw [nlt_dec]; rfl), obs]
    cases mapO (rtB vRat) (cutB 32 s) <;> rfl
/-! ### rationals as text -/
theorem mapO_if {α β : Type} (g : α → β) (bad : α → Bool) : ∀ l : List α, mapO (fun x => if bad x = true then none else some (g x)) l = if l.any bad = true then none else some (l.map g)
  | [] => rfl
  | x :: l => by
    rw [mapO, mapO_if g bad l, List.any_cons]
    cases h : bad x with
    | true => simp
    | false => cases h2 : l.any bad <;> simp
theorem i_frats {l : List (Int × Int)} (hl : l.length ≤ 1048577) : impl_FormatRationals l = some (frsB vRat l) := by
  unfold impl_FormatRationals frsB
  rw [read_loop (ws := l) (fun r => if (frB vRat r == []) = true then none else some (frB vRat r)) ([] : List UInt8) (by unfold lim; omega) (fun k hk acc rec ha => by
    rw [impl_FormatRationals_B1]
    rw [lt_dec hk, cond_true, geti_at hk, obs, i_frat, obs, wrap_in (by omega)]
    cases h : frB vRat l[k] == [] with
    | true => rfl
    | false => rw [cond_false, chk_pos (by simp only [List.length_singleton]; unfold lim; omega)]; rfl) (fun acc rec => by rw [impl_FormatRationals_B1]; rw [nlt_dec]; rfl), obs, mapO_if]
  cases h : l.any fun r => frB vRat r == [] with
  | true => rfl
  | false =>
    simp only [Bool.false_eq_true, if_false]
    rw [i_join (L := 42) (fun w hw => by
      obtain ⟨x, hx, rfl⟩ := List.mem_map.1 hw
      have := fr_len x
      simp only [List.length_singleton]; omega) (by rw [List.length_map]; unfold lim; omega) (by rw [List.length_map]; unfold lim; omega), obs]
theorem s_frats {l : List (Int × Int)} (hl : l.length ≤ 1048577) : spec_FormatRationals l = some (frsB vRat l) := by
  unfold spec_FormatRationals frsB
  have key : ∀ (d k f : Nat), k + d = l.length → d < f → loopF (spec_FormatRationals_B1 l) f (joinB [32] ((l.map (frB vRat)).take k), (k : Int)) = some (if (l.drop k).any (fun r => frB vRat r == []) = true then .inr [] else .inl (joinB [32] (l.map (frB vRat)))) := by
    intro d
    induction d with
    | zero =>
      intro k f hk hf
      obtain rfl : k = l.length := by omega
      cases f with
      | zero => omega
      | succ f =>
        rw [loopF_succ, spec_FormatRationals_B1]
        rw [nlt_dec, cond_false, List.drop_length, List.take_of_length_le (by simp)]; rfl
    | succ d ih =>
      intro k f hk hf
      have hk' : k < l.length := by omega
      have hkm : k < (l.map (frB vRat)).length := by simpa using hk'
      cases f with
      | zero => omega
      | succ f =>
        have hj := join_len [32] 42 ((l.map (frB vRat)).take k) (fun w hw => by
          obtain ⟨x, hx, rfl⟩ := List.mem_map.1 (List.mem_of_mem_take hw)
          have := fr_len x
          simp only [List.length_singleton]; omega)
        rw [List.length_take, Nat.min_eq_left (by omega)] at hj
        have h2 := fr_len l[k]
        have ih := ih (k + 1) f (by omega) (by omega)
        rw [List.take_succ_eq_append_getElem hkm, join_snoc, List.length_take, Nat.min_eq_left (by omega), List.getElem_map] at ih
        rw [loopF_succ, spec_FormatRationals_B1]
        rw [lt_dec hk', cond_true, geti_at hk', obs, s_frat, obs, List.drop_eq_getElem_cons hk', List.any_cons]
        cases h : frB vRat l[k] == [] with
        | true => rfl
        | false =>
          rw [cond_false, Bool.false_or]
          by_cases h0 : 0 < k
          · rw [if_neg (by omega)] at ih
            rw [decide_eq_true (by omega : (0 : Int) < (k : Int)), cond_true, chk_pos (by simp only [List.length_singleton]; unfold lim; omega), spec_FormatRationals_J2, chk_pos (by rw [List.length_append]; simp only [List.length_singleton]; unfold lim; omega), wrap_in (by omega)]
            exact ih
          · obtain rfl : k = 0 := by omega
            rw [if_pos rfl] at ih
            rw [decide_eq_false (by simp), cond_false, spec_FormatRationals_J2, chk_pos (by simp [joinB]; unfold lim; omega), wrap_in (by omega)]
            exact ih
  have := key l.length 0 fz (by omega) (lt_fz (by unfold lim; omega))
  rw [show ((([] : List UInt8), (0 : Int))) = (joinB [32] ((l.map (frB vRat)).take 0), ((0 : Nat) : Int)) from rfl, this, obs, List.drop_zero]
  cases l.any fun r => frB vRat r == [] <;> rfl
/-! ### names -/
theorem inner_any (b : UInt8) : (((List.range 5).filter fun v : Nat => nameB (v : Int) == [b]).map fun v : Nat => (v : Int)) = (nvB b).toList := by
  rw [show List.range 5 = [0, 1, 2, 3, 4] from rfl]
  have e0 : nameB ((0 : Nat) : Int) = [88] := rfl
  have e1 : nameB ((1 : Nat) : Int) = [89] := rfl
  have e2 : nameB ((2 : Nat) : Int) = [90] := rfl
  have e3 : nameB ((3 : Nat) : Int) = [85] := rfl
  have e4 : nameB ((4 : Nat) : Int) = [86] := rfl
  simp only [List.filter_cons, List.filter_nil, e0, e1, e2, e3, e4]
  unfold nvB
  by_cases h0 : b = 88
  · subst h0; rfl
  by_cases h1 : b = 89
  · subst h1; rfl
  by_cases h2 : b = 90
  · subst h2; rfl
  by_cases h3 : b = 85
  · subst h3; rfl
  by_cases h4 : b = 86
  · subst h4; rfl
  have n : ∀ x : UInt8, b ≠ x → (([x] : List UInt8) == [b]) = false := fun x hx => by simp; exact fun e => hx e.symm
  rw [n _ h0, n _ h1, n _ h2, n _ h3, n _ h4, if_neg h0, if_neg h1, if_neg h2, if_neg h3, if_neg h4]; rfl
theorem one_at {s : List UInt8} {i : Nat} (h : i < s.length) : (s.take (i + 1)).drop i = [s[i]] := by
  rw [take_more (Nat.le_refl i) h, self_nil]; rfl
theorem s_inner {s : List UInt8} {i : Nat} (hi : i < s.length) (hl : s.length ≤ 1048576) {acc : List Int} (ha : acc.length ≤ 10000000) : loopF (spec_l7List_B2 s (i : Int)) fz (acc, 0) = some (acc ++ (nvB s[i]).toList) := by
  have hw : IntKind.i64.wrap ((i : Int) + 1) = ((i + 1 : Nat) : Int) := by rw [wrap_in (by omega)]; simp
  have := loop_to (body := spec_l7List_B2 s (i : Int)) (out := acc ++ (nvB s[i]).toList) (fun k => (acc ++ ((List.range k).filter fun v : Nat => nameB (v : Int) == [s[i]]).map (fun v : Nat => (v : Int)), (k : Int))) 5 (fun k hk rec => by
    have hlen : (((List.range k).filter fun v : Nat => nameB (v : Int) == [s[i]]).map fun v : Nat => (v : Int)).length ≤ k := by
      rw [List.length_map]; have := List.length_filter_le (fun v : Nat => nameB (v : Int) == [s[i]]) (List.range k); rwa [List.length_range] at this
    rw [spec_l7List_B2]
    rw [decide_eq_true (by omega : (k : Int) < 5), cond_true, s_vname, obs, hw, chk_pos (by omega), sub_nat, one_at hi, List.range_succ, List.filter_append, List.map_append]
    cases h : nameB (k : Int) == [s[i]] with
    | true =>
      rw [cond_true, chk_pos (by simp only [List.length_append, List.length_singleton] at hlen ⊢; unfold lim; omega), spec_l7List_J3, wrap_in (by omega)]
      simp [List.filter_cons, h]
    | false =>
      rw [cond_false, spec_l7List_J3, wrap_in (by omega)]
      simp [List.filter_cons, h]) (fun rec => by rw [spec_l7List_B2]; rw [decide_eq_false (by omega), cond_false, inner_any]) fz (by unfold fz; omega)
  simpa using this
theorem ls_len (s : List UInt8) : (lsB s).length ≤ s.length := List.length_filterMap_le _ _
theorem s_list {s : List UInt8} (hl : s.length ≤ 1048576) : spec_l7List s = some (lsB s) := by
  unfold spec_l7List
  have := loop_to (body := spec_l7List_B1 s) (out := lsB s) (fun k => (lsB (s.take k), (k : Int))) s.length (fun k hk rec => by
    have h1 := ls_len (s.take k)
    rw [List.length_take] at h1
    rw [spec_l7List_B1]
    rw [lt_dec hk, cond_true, s_inner hk hl (by omega), obs, wrap_in (by omega)]
    have e : lsB (s.take (k + 1)) = lsB (s.take k) ++ (nvB s[k]).toList := by
      unfold lsB
      rw [List.take_succ_eq_append_getElem hk, List.filterMap_append]
      cases h : nvB s[k] <;> simp [h]
    rw [e]; simp) (fun rec => by rw [spec_l7List_B1]; rw [nlt_dec, List.take_length]; rfl) fz (lt_fz (by unfold lim; omega))
  rw [show ((([] : List Int), (0 : Int))) = (lsB (s.take 0), ((0 : Nat) : Int)) from rfl, this]
  rfl
theorem i_inner {s : List UInt8} {i : Nat} (hi : i < s.length) (hl : s.length ≤ 1048576) : loopF (impl_parseNames_B2 s (i : Int)) fz (-1, 0) = some ((nvB s[i]).getD (-1)) := by
  have hw : IntKind.i64.wrap ((i : Int) + 1) = ((i + 1 : Nat) : Int) := by rw [wrap_in (by omega)]; simp
  have hs : ∀ k : Nat, ((List.range (k + 1)).filter fun v : Nat => nameB (v : Int) == [s[i]]).getLast?.elim (-1 : Int) (fun v : Nat => (v : Int)) = cond (nameB (k : Int) == [s[i]]) (k : Int) (((List.range k).filter fun v : Nat => nameB (v : Int) == [s[i]]).getLast?.elim (-1 : Int) (fun v : Nat => (v : Int))) := by
    intro k
    rw [List.range_succ, List.filter_append]
    cases h : nameB (k : Int) == [s[i]] <;> simp [List.filter_cons, h]
  have := loop_to (body := impl_parseNames_B2 s (i : Int)) (out := (nvB s[i]).getD (-1)) (fun k => (((List.range k).filter fun v : Nat => nameB (v : Int) == [s[i]]).getLast?.elim (-1 : Int) (fun v : Nat => (v : Int)), (k : Int))) 5 (fun k hk rec => by
    rw [impl_parseNames_B2]
    rw [decide_eq_true (by omega : (k : Int) < 5), cond_true, i_vname, obs, hw, chk_pos (by omega), sub_nat, one_at hi, hs k]
    cases h : nameB (k : Int) == [s[i]] with
    | true => rw [cond_true, cond_true, impl_parseNames_J3, wrap_in (by omega)]; rfl
    | false => rw [cond_false, cond_false, impl_parseNames_J3, wrap_in (by omega)]; rfl) (fun rec => by
      have hin := inner_any s[i]
      have e : (((List.range 5).filter fun v : Nat => nameB (v : Int) == [s[i]]).getLast?.elim (-1 : Int) (fun v : Nat => (v : Int))) = (nvB s[i]).getD (-1) := by
        have h2 : ∀ l : List Nat, l.getLast?.elim (-1 : Int) (fun v : Nat => (v : Int)) = (l.map fun v : Nat => (v : Int)).getLast?.getD (-1) := by
          intro l; rw [List.getLast?_map]; cases l.getLast? <;> rfl
        rw [h2, hin]; cases nvB s[i] <;> rfl
      rw [impl_parseNames_B2]; rw [decide_eq_false (by omega), cond_false, e]) fz (by unfold fz; omega)
  exact this
end Go.Proofs.Ytkcfahfladikkaa
