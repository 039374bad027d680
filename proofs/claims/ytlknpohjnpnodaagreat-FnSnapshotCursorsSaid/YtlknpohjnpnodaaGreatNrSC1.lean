/-
 A relation out of rows: the reference and the program agree. On the printed functions; conditions: lengths.
-/
import Derived.Test.YtlknpohjnpnodaaGreatSoSC1
import Derived.Test.YtlknpohjnpnodaaGreatFhSC1
namespace Go.Proofs.YtlknpohjnpnodaaGreat
open Go.RowKit
set_option linter.unusedSimpArgs false
theorem KM {O : Type} {B : (Int -> Option (Sum Unit O)) -> Int -> Option (Sum Unit O)} {n : Nat} (bad : Nat -> Bool) (o : O) (hn : n <= lim) (h1 : ∀ k, k < n -> ∀ rec, B rec (k : Int) = cond (bad k) (some (.inr o)) (rec ((k + 1 : Nat) : Int))) (h2 : ∀ rec, B rec (n : Int) = some (.inl ())) :
  Ai B fz 0 = some (cond ((List.range n).any bad) (.inr o) (.inl ())) := by
 have key : ∀ d k, k + d = n -> (∀ j, j < k -> bad j = false) -> ∀ m, d < m -> Ai B m (k : Int) = some (cond ((List.range n).any bad) (.inr o) (.inl ())) := by
  intro d
  induction d with
  | zero =>
   intro k hk hb m hm
   cases m with
   | zero => omega
   | succ m =>
    have hkn : k = n := by omega
    have : (List.range n).any bad = false := by
     rw [List.any_eq_false]
     intro x hx
     rw [hb x (by have := List.mem_range.1 hx; omega)]; simp
    show B (Ai B m) (k : Int) = _
    rw [hkn, h2, this]; rfl
  | succ d ih =>
   intro k hk hb m hm
   cases m with
   | zero => omega
   | succ m =>
    show B (Ai B m) (k : Int) = _
    rw [h1 k (by omega)]
    cases hbk : bad k with
    | true =>
     have : (List.range n).any bad = true := by rw [List.any_eq_true]; exact ⟨k, List.mem_range.2 (by omega), hbk⟩
     rw [this]; rfl
    | false =>
     exact ih (k + 1) (by omega) (fun j hj => by
      rcases Nat.lt_or_ge j k with h | h
      ·exact hb j h
      ·rw [show j = k by omega]; exact hbk) m (by omega)
 have := key n 0 (by omega) (fun j hj => absurd hj (by omega)) fz (G0 hn)
 simpa using this
theorem P5 {l : List Row} (h : Bk l) : Bk (sortB l) := ⟨Nat.le_trans (H2 l) h.1, fun r hr => h.2 r ((IK l r).1 hr)⟩
def Lu (a : Int) (x : Row) : Bool := ((List.length x : Int) != a) || !MQ x
def nrB (a : Int) (l : List Row) : (Int × List Row) × Bool := cond (AI l fun _ x => Lu a x) ((0, []), false) (cond (!G9 (a, sortB l)) ((0, []), false) ((a, sortB l), true))
theorem eB {a : Int} {l : List Row} (h : Bk l) : Ck a l = some (nrB a l) := by
 unfold Ck nrB AI
 rw [KM (fun k => atB l k fun x => Lu a x) _ h.1 (fun k hk rec => by
  unfold FSQ
  rw [AC hk, Ak hk, AH hk (Ax h.1), AY hk]
  simp only [cond_true, Ad, ZR (h.2 _ (List.getElem_mem hk)), Lu]
  cases ((List.length l[k] : Int) != a) <;> cases MQ l[k] <;> rfl) (fun rec => by unfold FSQ; rw [Ay]; rfl)]
 cases (List.range l.length).any fun k => atB l k fun x => Lu a x with
 | true => rfl
 | false =>
  simp only [Ad, cond_false, eF h, ST (r := (a, sortB l)) (P5 h), Oj (r := (a, sortB l)) (P5 h)]
  cases G9 (a, sortB l) <;> rfl
theorem jW {a : Int} {l : List Row} (h : Bk l) : ES a l = some (nrB a l) := by
 unfold ES nrB AI
 rw [KM (fun k => atB l k fun x => Lu a x) _ h.1 (fun k hk rec => by
  unfold FK
  rw [AC hk, Ak hk, AH hk (Ax h.1), AY hk]
  simp only [cond_true, Ad, bq (h.2 _ (List.getElem_mem hk)), Lu]
  cases ((List.length l[k] : Int) != a) <;> cases MQ l[k] <;> rfl) (fun rec => by unfold FK; rw [Ay]; rfl)]
 cases (List.range l.length).any fun k => atB l k fun x => Lu a x with
 | true => rfl
 | false =>
  simp only [Ad, cond_false, XU h, M0 (r := (a, sortB l)) (P5 h)]
  cases G9 (a, sortB l) <;> rfl
abbrev Rln := Int × List Row
theorem LG {α : Type} {l : List α} {f : Nat -> α -> Bool} (h : ∀ i (hi : i < l.length), f i l[i] = false) : AI l f = false := by
 unfold AI
 rw [List.any_eq_false]
 intro i hi
 have hi := List.mem_range.1 hi
 rw [AY hi, h i hi]
 simp
theorem HK (r : Rln) : G9 r = true ↔ (0 <= r.1 ∧ r.1 <= 5) ∧ r.2.length <= 4000 ∧ (∀ x ∈ r.2, (x.length : Int) = r.1 ∧ MQ x = true) ∧ Srt r.2 := by
 unfold G9 btw
 simp only [Bool.and_eq_true, decide_eq_true_eq, Bool.not_eq_true', decide_eq_false_iff_not]
 constructor
 ·rintro ⟨h1, h2, h3⟩
  refine ⟨h1, by omega, fun x hx => ?_, ?_⟩
  ·obtain ⟨i, hi, rfl⟩ := List.mem_iff_getElem.1 hx
   have := D6 h3 hi
   unfold J9 at this
   simp only [Bool.or_eq_false_iff, Bool.not_eq_false'] at this
   exact ⟨by simpa using this.1.1, this.1.2⟩
  ·have hs : ∀ k (hk : k + 1 < r.2.length), Ej (r.2[k]'(by omega)) r.2[k + 1] < 0 := by
    intro k hk
    have := D6 h3 hk
    unfold J9 at this
    simp only [Bool.or_eq_false_iff, Bool.and_eq_false_iff] at this
    rcases this.2 with h4 | h4
    ·simp at h4
    ·rw [show k + 1 - 1 = k by omega, AY (by omega)] at h4
     have := of_decide_eq_false h4
     omega
   unfold Srt
   rw [List.pairwise_iff_getElem]
   intro i j hi hj hij
   induction j with
   | zero => omega
   | succ j ih =>
    rcases Nat.lt_or_ge i j with h4 | h4
    ·exact HC (ih (by omega) h4) (hs j hj)
    ·have : i = j := by omega
     subst this
     exact hs i hj
 ·rintro ⟨h1, h2, h3, h4⟩
  refine ⟨h1, by omega, LG fun i hi => ?_⟩
  have h5 := h3 _ (List.getElem_mem hi)
  unfold J9
  rw [h5.2, h5.1]
  simp only [bne_self_eq_false, Bool.not_true, Bool.false_or]
  by_cases h0 : 0 < i
  ·rw [decide_eq_true h0, Bool.true_and, AY (by omega : i - 1 < r.2.length)]
   have := List.pairwise_iff_getElem.1 h4 (i - 1) i (by omega) hi (by omega)
   exact decide_eq_false (by omega)
  ·rw [decide_eq_false h0, Bool.false_and]
end Go.Proofs.YtlknpohjnpnodaaGreat
