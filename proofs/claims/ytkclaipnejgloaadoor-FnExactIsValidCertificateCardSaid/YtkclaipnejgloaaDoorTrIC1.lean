/-
  Parents that form a tree: two ways to say it. Plain lists; no conditions.
-/
import Derived.Test.YtkclaipnejgloaaDoorQuIC1
-- pure
namespace Go.Proofs.YtkclaipnejgloaaDoor
open Go.RowKit
set_option linter.unusedVariables false
set_option linter.unusedSimpArgs false
theorem badAny_of {α : Type} {l : List α} {f : Nat → α → Bool} (h : ∀ i (hi : i < l.length), f i l[i] = false) : badAny l f = false := by
  unfold badAny
  rw [List.any_eq_false]
  intro k hk
  have hk := List.mem_range.1 hk
  rw [atB_lt hk, h k hk]
  simp
/-- the places before k that fit -/
def rtL (f : Int → Bool) (l : List Int) (k : Nat) : List Nat := (List.range k).filter fun i => atB l i f
theorem rtL_s (f : Int → Bool) (l : List Int) (k : Nat) : rtL f l (k + 1) = rtL f l k ++ (if atB l k f = true then [k] else []) := by
  unfold rtL
  rw [List.range_succ, List.filter_append, List.filter_cons, List.filter_nil]
theorem rtL_mem {f : Int → Bool} {l : List Int} {k i : Nat} : i ∈ rtL f l k ↔ i < k ∧ atB l i f = true := by
  unfold rtL
  rw [List.mem_filter, List.mem_range]
theorem one_of {l : List Nat} {r : Nat} (hn : l.Nodup) (hr : r ∈ l) (h : ∀ i ∈ l, i = r) : l = [r] := by
  cases l with
  | nil => cases hr
  | cons a l =>
    have ha := h a (by simp)
    subst ha
    cases l with
    | nil => rfl
    | cons b l =>
      have hb := h b (by simp)
      subst hb
      rw [List.nodup_cons] at hn
      exact absurd (by simp) hn.1
theorem rtL_one {f : Int → Bool} {l : List Int} {n r : Nat} : rtL f l n = [r] ↔ (r < n ∧ atB l r f = true) ∧ ∀ i, i < n → atB l i f = true → i = r := by
  constructor
  · intro h
    refine ⟨rtL_mem.1 (by rw [h]; simp), fun i hi hf => ?_⟩
    have := rtL_mem.2 ⟨hi, hf⟩
    rw [h] at this
    simpa using this
  · rintro ⟨h1, h2⟩
    refine one_of ?_ (rtL_mem.2 h1) (fun i hi => h2 i (rtL_mem.1 hi).1 (rtL_mem.1 hi).2)
    exact List.Nodup.sublist List.filter_sublist List.nodup_range
/-- the only root, or -1 -/
def rootB (p : List Int) : Int := match rtL (fun x => x == -1) p p.length with
  | [r] => (r : Int)
  | _ => -1
def upP (p : List Int) (a : Int) : Int := (p[a.toNat]?).getD (-1)
def inP (p : List Int) (a : Int) : Bool := btw a (-1) ((p.length : Int) - 1)
/-- the way up, with a look at each parent -/
def walkR (p : List Int) : Nat → Int → Option Int
  | 0, a => some a
  | m + 1, a => if 0 ≤ a then (if inP p (upP p a) = true then walkR p m (upP p a) else none) else some a
def endsB (p : List Int) (i : Nat) : Bool := match walkR p (p.length + 1) i with
  | some a => decide (a < 0)
  | none => false
/-- the program's way -/
def treeI (p : List Int) : Bool := (!badAny p fun i x => !inP p x || !endsB p i) && (((rtL (fun x => decide (x < 0)) p p.length).length : Int) == 1)
/-- the way up as a list -/
def pathB (p : List Int) : Nat → Int → List Int
  | 0, _ => []
  | m + 1, a => if 0 ≤ a ∧ a < (p.length : Int) then a :: pathB p m (upP p a) else []
def pathOk (p : List Int) (i : Nat) : Bool := decide ((pathB p (p.length + 1) i).length ≤ p.length) && ((pathB p (p.length + 1) i).getLast? == some (rootB p))
/-- the reference's way -/
def treeS (p : List Int) : Bool := decide (0 ≤ rootB p) && !badAny p fun i _ => !pathOk p i
def goUp (p : List Int) : Nat → Int → Int
  | 0, a => a
  | m + 1, a => if 0 ≤ a then goUp p m (upP p a) else a
theorem goUp_neg {p : List Int} {a : Int} (h : a < 0) : ∀ m, goUp p m a = a
  | 0 => rfl
  | m + 1 => by rw [goUp, if_neg (by omega)]
theorem goUp_more {p : List Int} : ∀ {m : Nat} {a : Int}, goUp p m a < 0 → goUp p (m + 1) a < 0
  | 0, a, h => by rw [goUp_neg (show a < 0 from h)]; exact h
  | m + 1, a, h => by
    rw [goUp] at h ⊢
    split
    · rename_i h0; rw [if_pos h0] at h; exact goUp_more h
    · rename_i h0; rw [if_neg h0] at h; exact h
def wide (p : List Int) : Prop := ∀ (i : Nat) (h : i < p.length), -1 ≤ p[i] ∧ p[i] ≤ (p.length : Int) - 1
theorem up_wide {p : List Int} (hw : wide p) {a : Int} (h0 : 0 ≤ a) (h1 : a < (p.length : Int)) : -1 ≤ upP p a ∧ upP p a < (p.length : Int) := by
  have hk : a.toNat < p.length := by omega
  have := hw a.toNat hk
  unfold upP
  rw [List.getElem?_eq_getElem hk]
  simp only [Option.getD_some]
  omega
theorem walk_up {p : List Int} (hw : wide p) : ∀ (m : Nat) {a : Int}, a < (p.length : Int) → walkR p m a = some (goUp p m a)
  | 0, a, _ => rfl
  | m + 1, a, h => by
    rw [walkR, goUp]
    split
    · rename_i h0
      have := up_wide hw h0 h
      rw [if_pos (by unfold inP btw; simp; omega)]
      exact walk_up hw m this.2
    · rfl
theorem path_last {p : List Int} (hw : wide p) : ∀ (m : Nat) {a : Int}, 0 ≤ a → a < (p.length : Int) → goUp p m a < 0 → ∃ l, (pathB p m a).getLast? = some l ∧ 0 ≤ l ∧ l < (p.length : Int) ∧ upP p l < 0
  | 0, a, h0, _, h => absurd (show a < 0 from h) (by omega)
  | m + 1, a, h0, h1, h => by
    rw [goUp, if_pos h0] at h
    have hb := up_wide hw h0 h1
    rw [pathB, if_pos ⟨h0, h1⟩]
    by_cases hn : upP p a < 0
    · refine ⟨a, ?_, h0, h1, hn⟩
      have : pathB p m (upP p a) = [] := by cases m <;> simp [pathB]; omega
      rw [this]; rfl
    · obtain ⟨l, e, q⟩ := path_last hw m (by omega) hb.2 h
      refine ⟨l, ?_, q⟩
      rw [List.getLast?_cons, e]; rfl
theorem path_in {p : List Int} : ∀ (m : Nat) {a x : Int}, x ∈ pathB p m a → 0 ≤ x ∧ x < (p.length : Int)
  | 0, _, _, h => by cases h
  | m + 1, a, x, h => by
    rw [pathB] at h
    split at h
    · rename_i hc
      rcases List.mem_cons.1 h with rfl | h
      · exact hc
      · exact path_in m h
    · cases h
theorem path_ends {p : List Int} : ∀ (m : Nat) {a x : Int} {j : Nat}, x ∈ pathB p m a → goUp p j a < 0 → goUp p j x < 0
  | 0, _, _, _, h, _ => by cases h
  | m + 1, a, x, j, h, hj => by
    rw [pathB] at h
    split at h
    · rename_i hc
      rcases List.mem_cons.1 h with rfl | h
      · exact hj
      · cases j with
        | zero => exact absurd (show a < 0 from hj) (by omega)
        | succ j =>
          rw [goUp, if_pos hc.1] at hj
          exact goUp_more (path_ends m h hj)
    · cases h
theorem least_end {p : List Int} {a : Int} : ∀ j, goUp p j a < 0 → ∃ k, goUp p k a < 0 ∧ ∀ i, i < k → ¬ goUp p i a < 0
  | 0, h => ⟨0, h, fun i hi => absurd hi (by omega)⟩
  | j + 1, h => by
    by_cases h' : goUp p j a < 0
    · exact least_end j h'
    · refine ⟨j + 1, h, fun i hi hn => h' ?_⟩
      have : ∀ d, i + d ≤ j → goUp p (i + d) a < 0 := by
        intro d
        induction d with
        | zero => intro _; exact hn
        | succ d ih => intro hd; exact goUp_more (ih (by omega))
      have := this (j - i) (by omega)
      rwa [show i + (j - i) = j by omega] at this
theorem path_nodup {p : List Int} : ∀ (m : Nat) {a : Int} {j : Nat}, goUp p j a < 0 → (pathB p m a).Nodup
  | 0, _, _, _ => List.nodup_nil
  | m + 1, a, j, h => by
    rw [pathB]
    split
    · rename_i hc
      obtain ⟨k, h1, h2⟩ := least_end j h
      cases k with
      | zero => exact absurd (show a < 0 from h1) (by omega)
      | succ k =>
        have h3 := h1
        rw [goUp, if_pos hc.1] at h3
        refine List.nodup_cons.2 ⟨fun hm => ?_, path_nodup m h3⟩
        exact h2 k (by omega) (path_ends m hm h3)
    · exact List.nodup_nil
theorem path_short {p : List Int} (hw : wide p) : ∀ (m : Nat) {a : Int}, a < (p.length : Int) → (pathB p m a).length < m → goUp p m a < 0
  | 0, _, _, h => absurd h (by omega)
  | m + 1, a, h1, h => by
    rw [goUp]
    split
    · rename_i h0
      rw [pathB, if_pos ⟨h0, h1⟩, List.length_cons] at h
      exact path_short hw m (up_wide hw h0 h1).2 (by omega)
    · omega
theorem rootB_ge {p : List Int} (h : 0 ≤ rootB p) : ∃ r : Nat, rootB p = (r : Int) ∧ rtL (fun x => x == -1) p p.length = [r] := by
  unfold rootB at *
  split at h
  · rename_i r e; exact ⟨r, rfl, e⟩
  · omega
theorem rtL_eq {p : List Int} (hw : wide p) : rtL (fun x => decide (x < 0)) p p.length = rtL (fun x => x == -1) p p.length := by
  unfold rtL
  refine List.filter_congr fun i hi => ?_
  have hi := List.mem_range.1 hi
  rw [atB_lt hi, atB_lt hi, Bool.eq_iff_iff]
  have := hw i hi
  simp
  omega
theorem wide_of {p : List Int} (h : ∀ i (hi : i < p.length), inP p p[i] = true) : wide p := fun i hi => by
  have := h i hi
  unfold inP btw at this
  simp only [Bool.and_eq_true, decide_eq_true_eq] at this
  exact this
theorem tree_eq (p : List Int) : treeI p = treeS p := by
  rw [Bool.eq_iff_iff]
  constructor
  · intro h
    unfold treeI at h
    simp only [Bool.and_eq_true, Bool.not_eq_true', beq_iff_eq] at h
    obtain ⟨h1, h2⟩ := h
    have h1' : ∀ i (hi : i < p.length), inP p p[i] = true ∧ endsB p i = true := fun i hi => by
      have := badAny_f h1 hi
      simpa using this
    have hw := wide_of fun i hi => (h1' i hi).1
    have hend : ∀ i, i < p.length → goUp p (p.length + 1) i < 0 := fun i hi => by
      have := (h1' i hi).2
      unfold endsB at this
      rw [walk_up hw _ (by omega)] at this
      simpa using this
    rw [rtL_eq hw] at h2
    obtain ⟨r, hr⟩ : ∃ r, rtL (fun x => x == -1) p p.length = [r] := List.length_eq_one_iff.1 (by omega)
    have hroot : rootB p = (r : Int) := by unfold rootB; rw [hr]
    have hq := rtL_one.1 hr
    unfold treeS
    simp only [Bool.and_eq_true, decide_eq_true_eq, Bool.not_eq_true']
    refine ⟨by omega, badAny_of fun i hi => ?_⟩
    have h3 := hend i hi
    obtain ⟨l, e1, e2, e3, e4⟩ := path_last hw (p.length + 1) (a := i) (by omega) (by omega) h3
    have hlen := few p.length (pathB p (p.length + 1) i) (path_nodup _ h3) (fun x hx => path_in _ hx)
    have hl : l = rootB p := by
      have hk : l.toNat < p.length := by omega
      have := hq.2 l.toNat hk (by
        rw [atB_lt hk]
        unfold upP at e4
        rw [List.getElem?_eq_getElem hk] at e4
        simp only [Option.getD_some] at e4
        have := hw l.toNat hk
        simp
        omega)
      omega
    unfold pathOk
    rw [e1, hl]
    simp
    exact hlen
  · intro h
    unfold treeS at h
    simp only [Bool.and_eq_true, decide_eq_true_eq, Bool.not_eq_true'] at h
    obtain ⟨h1, h2⟩ := h
    obtain ⟨r, hroot, hr⟩ := rootB_ge h1
    have hq := rtL_one.1 hr
    have h3 : ∀ i, i < p.length → (pathB p (p.length + 1) i).length ≤ p.length ∧ (pathB p (p.length + 1) i).getLast? = some (rootB p) := fun i hi => by
      have := badAny_f h2 hi
      unfold pathOk at this
      simpa using this
    have hin : ∀ i (hi : i < p.length), inP p p[i] = true := fun i hi => by
      unfold inP btw
      simp only [Bool.and_eq_true, decide_eq_true_eq]
      have hl := (h3 i hi).2
      rw [pathB, if_pos (by omega)] at hl
      have hu : upP p i = p[i] := by unfold upP; rw [Int.toNat_natCast, List.getElem?_eq_getElem hi]; rfl
      by_cases hc : 0 ≤ p[i] ∧ p[i] < (p.length : Int)
      · omega
      · have : pathB p p.length (upP p i) = [] := by
          rw [hu]
          cases hn : p.length with
          | zero => rfl
          | succ m => rw [pathB, if_neg (by omega)]
        rw [this] at hl
        simp only [List.getLast?_singleton, Option.some.injEq] at hl
        have : i = r := by omega
        subst this
        have := hq.1.2
        rw [atB_lt hi] at this
        have : p[i] = -1 := by simpa using this
        omega
    have hw := wide_of hin
    unfold treeI
    simp only [Bool.and_eq_true, Bool.not_eq_true', beq_iff_eq]
    refine ⟨badAny_of fun i hi => ?_, by rw [rtL_eq hw, hr]; rfl⟩
    rw [hin i hi]
    have := path_short hw (p.length + 1) (a := i) (by omega) (by have := (h3 i hi).1; omega)
    unfold endsB
    rw [walk_up hw _ (by omega)]
    simpa using this
end Go.Proofs.YtkclaipnejgloaaDoor
