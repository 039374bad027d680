/-
  When a join tree, a decomposition and a plan are valid: the reference and the program agree. On the printed functions; conditions: lengths.
-/
import Derived.Test.YtkcfahfladikkaaTrX1
import Derived.Test.YtkcfahfladikkaaQfX1
-- pure
namespace Go.Proofs.Ytkcfahfladikkaa
open Go.RowKit
set_option linter.unusedVariables false
set_option linter.unusedSimpArgs false
theorem ob_s {α β : Type} (a : α) (f : α → Option β) : obind (some a) f = f a := rfl
/-- a loop with a state that ends at a bad element with a value -/
theorem all_sv {S O : Type} (v : O) {B : (S × Int → Option (Sum S O)) → S × Int → Option (Sum S O)} {n : Nat} (s : Nat → S) (bad : Nat → Bool) (hn : n ≤ lim) (h1 : ∀ k, k < n → ∀ rec, B rec (s k, (k : Int)) = cond (bad k) (some (.inr v)) (rec (s (k + 1), ((k + 1 : Nat) : Int)))) (h2 : ∀ rec, B rec (s n, (n : Int)) = some (.inl (s n))) :
    loopF B fz (s 0, 0) = some (cond ((List.range n).any bad) (.inr v) (.inl (s n))) := by
  have key : ∀ d k, k + d = n → (∀ j, j < k → bad j = false) → ∀ m, d < m → loopF B m (s k, (k : Int)) = some (cond ((List.range n).any bad) (.inr v) (.inl (s n))) := by
    intro d
    induction d with
    | zero =>
      intro k hk hb m hm
      cases m with
      | zero => omega
      | succ m =>
        have hkn : k = n := by omega
        have : (List.range n).any bad = false := by
          rw [List.any_eq_false]
          intro x hx
          rw [hb x (by have := List.mem_range.1 hx; omega)]; simp
        show B (loopF B m) (s k, (k : Int)) = _
        rw [hkn, h2, this]; rfl
    | succ d ih =>
      intro k hk hb m hm
      cases m with
      | zero => omega
      | succ m =>
        show B (loopF B m) (s k, (k : Int)) = _
        rw [h1 k (by omega)]
        cases hbk : bad k with
        | true =>
          have : (List.range n).any bad = true := by rw [List.any_eq_true]; exact ⟨k, List.mem_range.2 (by omega), hbk⟩
          rw [this]; rfl
        | false =>
          exact ih (k + 1) (by omega) (fun j hj => by
            rcases Nat.lt_or_ge j k with h | h
            · exact hb j h
            · rw [show j = k by omega]; exact hbk) m (by omega)
  have := key n 0 (by omega) (fun j hj => absurd hj (by omega)) fz (lt_fz hn)
  simpa using this
theorem rtL_len (f : Int → Bool) (l : List Int) (k : Nat) : (rtL f l k).length ≤ k := by
  unfold rtL
  exact Nat.le_trans (List.length_filter_le _ _) (by simp)
theorem wrap_1 {n : Nat} (h : n ≤ lim) : IntKind.i64.wrap ((n : Int) - 1) = (n : Int) - 1 := wrap_in (by unfold lim at h; omega)
theorem wrap_k {k : Nat} (h : k ≤ lim) : IntKind.i64.wrap ((k : Int) + 1) = ((k + 1 : Nat) : Int) := by rw [wrap_in (by unfold lim at h; omega)]; simp
theorem up_at {p : List Int} {k : Nat} (h : k < p.length) : upP p (k : Int) = p[k] := by unfold upP; rw [Int.toNat_natCast, List.getElem?_eq_getElem h]; rfl
/-- the way up -/
theorem i_walk {p : List Int} (hp : p.length ≤ lim) : ∀ (m k : Nat) (a : Int), k + m = p.length + 1 → a < (p.length : Int) → ∀ f, m < f → loopF (impl_isTree_B3 p) f (a, (k : Int)) = some (match walkR p m a with | some b => .inl b | none => .inr false)
  | 0, k, a, hk, ha, f, hf => by
    cases f with
    | zero => omega
    | succ f =>
      rw [loopF_succ, impl_isTree_B3]
      rw [decide_eq_false (by omega : ¬ (k : Int) ≤ (p.length : Int))]; rfl
  | m + 1, k, a, hk, ha, f, hf => by
    cases f with
    | zero => omega
    | succ f =>
      rw [loopF_succ, impl_isTree_B3]
      rw [decide_eq_true (by omega : (k : Int) ≤ (p.length : Int)), cond_true, walkR]
      by_cases h0 : 0 ≤ a
      · have hj : a.toNat < p.length := by omega
        have e : a = ((a.toNat : Nat) : Int) := by omega
        have hg : geti p a = some (upP p a) := by rw [e, geti_at hj, up_at hj]
        rw [decide_eq_true h0, if_pos h0, cond_true, hg]
        simp only [ob_s, i_within, wrap_1 hp]
        show (cond (!inP p (upP p a)) _ _) = _
        cases hi : inP p (upP p a) with
        | false => rfl
        | true =>
          rw [wrap_k (by omega)]
          have := i_walk hp m (k + 1) (upP p a) (by omega) (by unfold inP btw at hi; simp at hi; omega) f (by omega)
          exact this
      · rw [decide_eq_false h0, if_neg h0]; rfl
theorem i_isTree {p : List Int} (hp : p.length < lim) : impl_isTree p = some (treeI p) := by
  unfold impl_isTree treeI badAny
  have h0 : (0 : Int) = (((rtL (fun x => decide (x < 0)) p 0).length : Nat) : Int) := rfl
  have := all_sv false (B := impl_isTree_B1 p) (n := p.length) (fun k => (((rtL (fun x => decide (x < 0)) p k).length : Nat) : Int)) (fun k => atB p k fun x => !inP p x || !endsB p k) (by omega) (fun k hk rec => by
    have hw := i_walk (p := p) (by omega) (p.length + 1) 0 (k : Int) (by omega) (by omega) fz (by unfold fz; unfold lim at hp; omega)
    have hlen := rtL_len (fun x => decide (x < 0)) p k
    unfold impl_isTree_B1 impl_isTree_J2
    simp only
    rw [lt_dec hk, geti_at hk, atB_lt hk, wrap_k (show k ≤ lim by omega)]
    simp only [cond_true, ob_s, i_within, wrap_1 (show p.length ≤ lim by omega)]
    show (cond (!inP p p[k]) _ _) = _
    cases hi : inP p p[k] with
    | false => rfl
    | true =>
      simp only [Bool.not_true, cond_false, Bool.false_or]
      have key : ∀ r : Int, (obind (loopF (impl_isTree_B3 p) fz ((k : Int), 0)) fun o3 => (match o3 with | .inl z15 => (cond (decide (0 ≤ z15)) (some (.inr false)) (rec (r, ((k + 1 : Nat) : Int)))) | .inr r => some (.inr r))) = cond (!endsB p k) (some (.inr false)) (rec (r, ((k + 1 : Nat) : Int))) := by
        intro r
        rw [show ((k : Int), (0 : Int)) = ((k : Int), ((0 : Nat) : Int)) from rfl, hw, ob_s]
        unfold endsB
        cases walkR p (p.length + 1) (k : Int) with
        | none => rfl
        | some a =>
          simp only
          by_cases ha : a < 0
          · rw [decide_eq_false (by omega : ¬ 0 ≤ a), decide_eq_true ha]; rfl
          · rw [decide_eq_true (by omega : 0 ≤ a), decide_eq_false ha]; rfl
      have hs : ∀ r : Int, r = (((rtL (fun x => decide (x < 0)) p (k + 1)).length : Nat) : Int) → cond (!endsB p k) (some (Sum.inr false)) (rec (r, ((k + 1 : Nat) : Int))) = cond (!endsB p k) (some (.inr false)) (rec ((((rtL (fun x => decide (x < 0)) p (k + 1)).length : Nat) : Int), ((k + 1 : Nat) : Int))) := fun r e => by rw [e]
      have hstep := rtL_s (fun x => decide (x < 0)) p k
      rw [atB_lt hk] at hstep
      by_cases hn : p[k] < 0
      · rw [decide_eq_true hn, cond_true]
        refine (key _).trans (hs _ ?_)
        rw [wrap_in (by unfold lim at hp; omega), hstep, decide_eq_true hn]
        simp
      · rw [decide_eq_false hn, cond_false]
        refine (key _).trans (hs _ ?_)
        rw [hstep, decide_eq_false hn]
        simp) (fun rec => by unfold impl_isTree_B1; simp only; rw [nlt_dec]; rfl)
  rw [← h0] at this
  rw [this]
  cases (List.range p.length).any fun k => atB p k fun x => !inP p x || !endsB p k with
  | true => rfl
  | false => rfl
/-- the first root so far -/
def outS (p : List Int) (k : Nat) : Int := match rtL (fun x => x == -1) p k with
  | [] => -1
  | r :: _ => (r : Int)
theorem outS_ge (p : List Int) (k : Nat) : decide (0 ≤ outS p k) = !(rtL (fun x => x == -1) p k).isEmpty := by
  unfold outS
  cases rtL (fun x => x == -1) p k with
  | nil => rfl
  | cons r l => simp
theorem s_root {p : List Int} (hp : p.length ≤ lim) : spec_JoinTreeRoot p = some (rootB p) := by
  unfold spec_JoinTreeRoot
  have h0 : (-1 : Int) = outS p 0 := rfl
  have := all_sv (-1 : Int) (B := spec_JoinTreeRoot_B1 p) (n := p.length) (outS p) (fun k => (atB p k fun x => x == -1) && !(rtL (fun x => x == -1) p k).isEmpty) hp (fun k hk rec => by
    unfold spec_JoinTreeRoot_B1 spec_JoinTreeRoot_J2
    simp only
    rw [lt_dec hk, geti_at hk, wrap_s hk (lim_max hp), atB_lt hk, outS_ge]
    simp only [cond_true, obind]
    have hstep := rtL_s (fun x => x == -1) p k
    rw [atB_lt hk] at hstep
    cases hb : (p[k] == -1) with
    | false =>
      rw [hb] at hstep
      have e : outS p (k + 1) = outS p k := by unfold outS; rw [hstep]; simp
      rw [e]; rfl
    | true =>
      rw [hb] at hstep
      cases he : (rtL (fun x => x == -1) p k) with
      | nil =>
        have e : outS p (k + 1) = (k : Int) := by unfold outS; rw [hstep, he]; rfl
        rw [e]; rfl
      | cons r l => rfl) (fun rec => by unfold spec_JoinTreeRoot_B1; simp only; rw [nlt_dec]; rfl)
  rw [← h0] at this
  rw [this]
  have hmem : ∀ k, ((atB p k fun x => x == -1) && !(rtL (fun x => x == -1) p k).isEmpty) = true ↔ (atB p k fun x => x == -1) = true ∧ ∃ j, j < k ∧ (atB p j fun x => x == -1) = true := by
    intro k
    rw [Bool.and_eq_true]
    refine and_congr Iff.rfl ?_
    constructor
    · intro h
      cases he : rtL (fun x => x == -1) p k with
      | nil => rw [he] at h; cases h
      | cons r l => exact ⟨r, rtL_mem.1 (by rw [he]; simp)⟩
    · rintro ⟨j, h1, h2⟩
      have := rtL_mem.2 ⟨h1, h2⟩
      cases he : rtL (fun x => x == -1) p k with
      | nil => rw [he] at this; cases this
      | cons r l => rfl
  cases hany : (List.range p.length).any fun k => (atB p k fun x => x == -1) && !(rtL (fun x => x == -1) p k).isEmpty with
  | true =>
    obtain ⟨k, hk, hb⟩ := List.any_eq_true.1 hany
    obtain ⟨h1, j, h2, h3⟩ := (hmem k).1 hb
    have hk := List.mem_range.1 hk
    have e : rootB p = -1 := by
      unfold rootB
      split
      · rename_i r he
        have hq := rtL_one.1 he
        have e1 := hq.2 k hk h1
        have e2 := hq.2 j (by omega) h3
        omega
      · rfl
    rw [e]; rfl
  | false =>
    have e : rootB p = outS p p.length := by
      unfold rootB outS
      cases he : rtL (fun x => x == -1) p p.length with
      | nil => rfl
      | cons r l =>
        cases l with
        | nil => rfl
        | cons r2 l =>
          exfalso
          have hnd : (rtL (fun x => x == -1) p p.length).Nodup := List.Nodup.sublist List.filter_sublist List.nodup_range
          rw [he] at hnd
          have m1 := rtL_mem.1 (show r ∈ rtL (fun x => x == -1) p p.length by rw [he]; simp)
          have m2 := rtL_mem.1 (show r2 ∈ rtL (fun x => x == -1) p p.length by rw [he]; simp)
          have hne : r ≠ r2 := fun e => by subst e; rw [List.nodup_cons] at hnd; exact hnd.1 (by simp)
          have hno : ∀ a b, a < b → b < p.length → (atB p a fun x => x == -1) = true → (atB p b fun x => x == -1) = true → False := fun a b hab hb ha hb' => by
            have := List.any_eq_false.1 hany b (List.mem_range.2 hb)
            exact this ((hmem b).2 ⟨hb', a, hab, ha⟩)
          rcases Nat.lt_or_ge r r2 with h | h
          · exact hno r r2 h m2.1 m1.2 m2.2
          · exact hno r2 r (by omega) m1.1 m2.2 m1.2
    rw [e]; rfl
theorem s_pathL {p : List Int} (hp : p.length < lim) : ∀ (m : Nat) (acc : List Int) (a : Int), acc.length + m = p.length + 1 → ∀ f, m < f → loopF (spec_l10Path_B1 p) f (a, acc) = some (acc ++ pathB p m a)
  | 0, acc, a, hk, f, hf => by
    cases f with
    | zero => omega
    | succ f =>
      rw [loopF_succ, spec_l10Path_B1]
      simp only [s_l1In, ob_s]
      rw [decide_eq_false (by omega : ¬ (acc.length : Int) ≤ (p.length : Int))]
      cases btw a 0 (IntKind.i64.wrap ((p.length : Int) - 1)) <;> simp [pathB]
  | m + 1, acc, a, hk, f, hf => by
    cases f with
    | zero => omega
    | succ f =>
      rw [loopF_succ, spec_l10Path_B1]
      simp only [s_l1In, ob_s, wrap_1 (show p.length ≤ lim by omega)]
      rw [decide_eq_true (by omega : (acc.length : Int) ≤ (p.length : Int)), cond_true, pathB]
      by_cases h0 : 0 ≤ a ∧ a < (p.length : Int)
      · have hj : a.toNat < p.length := by omega
        have e : a = ((a.toNat : Nat) : Int) := by omega
        have hg : geti p a = some (upP p a) := by rw [e, geti_at hj, up_at hj]
        have hb : btw a 0 ((p.length : Int) - 1) = true := by unfold btw; simp; omega
        rw [hb, if_pos h0, cond_true, chk_pos (by simp; omega), hg, ob_s]
        have := s_pathL hp m (acc ++ [a]) (upP p a) (by simp; omega) f (by omega)
        rw [this, List.append_assoc]; rfl
      · have hb : btw a 0 ((p.length : Int) - 1) = false := by unfold btw; simp; omega
        rw [hb, if_neg h0]; simp
theorem s_path {p : List Int} (hp : p.length < lim) (a : Int) : spec_l10Path p a = some (pathB p (p.length + 1) a) := by
  unfold spec_l10Path
  rw [s_pathL hp (p.length + 1) [] a (by simp) fz (by unfold fz; unfold lim at hp; omega)]
  simp [obind]
theorem path_len {p : List Int} : ∀ (m : Nat) (a : Int), (pathB p m a).length ≤ m
  | 0, _ => by simp [pathB]
  | m + 1, a => by
    rw [pathB]
    split
    · rw [List.length_cons]; have := path_len (p := p) m (upP p a); omega
    · simp
theorem path_ne {p : List Int} {k : Nat} (hk : k < p.length) : 0 < (pathB p (p.length + 1) (k : Int)).length := by rw [pathB, if_pos (by omega)]; simp
/-- the last of a path -/
theorem path_get {p : List Int} (hp : p.length < lim) {k : Nat} (hk : k < p.length) : ∃ x, geti (pathB p (p.length + 1) (k : Int)) (IntKind.i64.wrap (((pathB p (p.length + 1) (k : Int)).length : Int) - 1)) = some x ∧ (pathB p (p.length + 1) (k : Int)).getLast? = some x := by
  have h1 := path_ne hk
  have h2 := path_len (p := p) (p.length + 1) (k : Int)
  have hj : (pathB p (p.length + 1) (k : Int)).length - 1 < (pathB p (p.length + 1) (k : Int)).length := by omega
  refine ⟨(pathB p (p.length + 1) (k : Int))[(pathB p (p.length + 1) (k : Int)).length - 1], ?_, by rw [List.getLast?_eq_getElem?, List.getElem?_eq_getElem hj]⟩
  · rw [wrap_1 (by omega), show ((pathB p (p.length + 1) (k : Int)).length : Int) - 1 = (((pathB p (p.length + 1) (k : Int)).length - 1 : Nat) : Int) by omega, geti_at hj]
/-- what the reference looks at behind a path -/
theorem path_bad {p : List Int} (hp : p.length < lim) {k : Nat} (hk : k < p.length) {α : Type} (x y : Option α) : cond (decide ((p.length : Int) < ((pathB p (p.length + 1) (k : Int)).length : Int))) x (obind (geti (pathB p (p.length + 1) (k : Int)) (IntKind.i64.wrap (((pathB p (p.length + 1) (k : Int)).length : Int) - 1))) fun e => cond (e != rootB p) x y) = cond (!pathOk p k) x y := by
  obtain ⟨e, h1, h2⟩ := path_get hp hk
  unfold pathOk
  rw [h1, h2]
  simp only [obind]
  by_cases hl : (pathB p (p.length + 1) (k : Int)).length ≤ p.length
  · rw [decide_eq_false (by omega), decide_eq_true hl, cond_false, Bool.true_and, bne]
    rfl
  · rw [decide_eq_true (by omega), decide_eq_false hl]; rfl
/-- lists that have a number where the parent's has not -/
def topB {α : Type} (g : α → List Int) (l : List α) (p : List Int) (v : Int) (i : Nat) : Bool := atB l i fun x => (g x).contains v && atB p i fun y => decide (y < 0) || !atB l y.toNat fun z => (g z).contains v
def topT {α : Type} (g : α → List Int) (l : List α) (p : List Int) (v : Int) (k : Nat) : Nat := ((List.range k).filter (topB g l p v)).length
theorem topT_s {α : Type} (g : α → List Int) (l : List α) (p : List Int) (v : Int) (k : Nat) : topT g l p v (k + 1) = topT g l p v k + cond (topB g l p v k) 1 0 := by
  unfold topT
  rw [List.range_succ, List.filter_append, List.filter_cons, List.filter_nil, List.length_append]
  cases topB g l p v k <;> rfl
theorem topT_le {α : Type} (g : α → List Int) (l : List α) (p : List Int) (v : Int) (k : Nat) : topT g l p v k ≤ k := Nat.le_trans (List.length_filter_le _ _) (by simp)
theorem i_tops {ls : List (List Int)} {p : List Int} (hw : wide p) (hl : ls.length = p.length) (hp : p.length ≤ lim) (hs : ∀ l ∈ ls, l.length ≤ lim) (v : Int) : impl_topsOf ls p v = some ((topT id ls p v p.length : Nat) : Int) := by
  unfold impl_topsOf
  have := loop_to (body := impl_topsOf_B1 ls p v) (out := ((topT id ls p v p.length : Nat) : Int)) (fun k => (((topT id ls p v k : Nat) : Int), (k : Int))) p.length (fun k hk rec => by
    have hk' : k < ls.length := by omega
    have hle := topT_le id ls p v k
    have hst := topT_s id ls p v k
    unfold topB at hst
    rw [atB_lt hk', atB_lt hk] at hst
    unfold impl_topsOf_B1 impl_topsOf_J2 impl_topsOf_J3
    simp only
    rw [lt_dec hk', geti_at hk', geti_at hk, wrap_s hk (lim_max hp), hst]
    simp only [cond_true, obind, i_has (hs _ (List.getElem_mem hk')), id]
    have hwrap : IntKind.i64.wrap (((topT id ls p v k : Nat) : Int) + 1) = ((topT id ls p v k + 1 : Nat) : Int) := wrap_k (by omega)
    cases ls[k].contains v with
    | false => simp
    | true =>
      simp only [cond_true, Bool.true_and]
      have hwk := hw k hk
      by_cases hn : p[k] < 0
      · rw [decide_eq_true hn]
        simp only [cond_true, Bool.true_or, hwrap]
      · rw [decide_eq_false hn]
        have hj : p[k].toNat < ls.length := by omega
        have hg : geti ls p[k] = some ls[p[k].toNat] := by
          have e : p[k] = ((p[k].toNat : Nat) : Int) := by omega
          conv => lhs; rw [e]
          exact geti_at hj
        rw [hg, atB_lt hj]
        simp only [cond_false, Bool.false_or, i_has (hs _ (List.getElem_mem hj))]
        cases ls[p[k].toNat].contains v with
        | true => simp
        | false => simp only [Bool.not_false, cond_true, hwrap]) (fun rec => by unfold impl_topsOf_B1; simp only; rw [hl, nlt_dec]; rfl) fz (lt_fz hp)
  have h0 : topT id ls p v 0 = 0 := rfl
  simp only [h0] at this
  rw [show ((0 : Int), (0 : Int)) = (((0 : Nat) : Int), ((0 : Nat) : Int)) from rfl, this]
  rfl
end Go.Proofs.Ytkcfahfladikkaa
