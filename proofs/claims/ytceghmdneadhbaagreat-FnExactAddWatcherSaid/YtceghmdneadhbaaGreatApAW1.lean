/-
 ApplyDelta: the reference and the program give the same. On the printed functions; conditions: lengths.
-/
import Derived.Test.YtceghmdneadhbaaGreatSrAW1
import Derived.Test.YtceghmdneadhbaaGreatNrAW1
import Derived.Test.YtceghmdneadhbaaGreatFhAW1
-- pure
namespace Go.Proofs.YtceghmdneadhbaaGreat
open Go.RowKit
set_option linter.unusedVariables false
set_option linter.unusedSimpArgs false
theorem rel_smR {r : Rln} (h : relB r = true) : smRows r.2 := by
 obtain ⟨h1, h2, h3, h4⟩ := (rel_iff r).1 h
 exact ⟨by unfold lim; omega, fun x hx => by have := (h3 x hx).1; unfold lim; omega⟩
/-! ### where a row stands -/
/-- a search by halves among ascending rows -/
theorem half_loop {B : (Int × Int -> Option Int) -> Int × Int -> Option Int} {rows : List Row} {row : Row} (hs : Srt rows) (hl : rows.length <= lim)
  (h1 : ∀ rec (lo hi m : Nat), lo < hi -> hi <= rows.length -> m = (lo + hi) / 2 -> ∀ hm : m < rows.length, B rec ((lo : Int), (hi : Int)) = cond (decide (cmpB rows[m] row < 0)) (rec (((m + 1 : Nat) : Int), (hi : Int))) (rec ((lo : Int), (m : Int))))
  (h2 : ∀ rec (lo : Nat), B rec ((lo : Int), (lo : Int)) = some (lo : Int)) :
  ∃ k : Nat, k <= rows.length ∧ loopF B fz (0, (rows.length : Int)) = some (k : Int) ∧ (∀ i (hi : i < rows.length), i < k -> cmpB rows[i] row < 0) ∧ ∀ i (hi : i < rows.length), k <= i -> ¬ cmpB rows[i] row < 0 := by
 have key : ∀ d (lo hi : Nat), hi - lo <= d -> lo <= hi -> hi <= rows.length -> (∀ i (hi : i < rows.length), i < lo -> cmpB rows[i] row < 0) -> (∀ i (hi' : i < rows.length), hi <= i -> ¬ cmpB rows[i] row < 0) -> ∀ m, d < m ->
   ∃ k : Nat, k <= rows.length ∧ loopF B m ((lo : Int), (hi : Int)) = some (k : Int) ∧ (∀ i (hi : i < rows.length), i < k -> cmpB rows[i] row < 0) ∧ ∀ i (hi : i < rows.length), k <= i -> ¬ cmpB rows[i] row < 0 := by
  intro d
  induction d with
  | zero =>
   intro lo hi h3 h4 h5 h6 h7 m hm
   have : lo = hi := by omega
   subst this
   cases m with
   | zero => omega
   | succ m => exact ⟨lo, h5, h2 _ lo, h6, h7⟩
  | succ d ih =>
   intro lo hi h3 h4 h5 h6 h7 m hm
   cases m with
   | zero => omega
   | succ m =>
    rcases Nat.lt_or_ge lo hi with hlt | hge
    ·have hmid : (lo + hi) / 2 < rows.length := by omega
     show ∃ k : Nat, k <= rows.length ∧ B (loopF B m) _ = _ ∧ _
     rw [h1 _ lo hi _ hlt h5 rfl hmid]
     by_cases hc : cmpB rows[(lo + hi) / 2] row < 0
     ·rw [decide_eq_true hc]
      refine ih ((lo + hi) / 2 + 1) hi (by omega) (by omega) h5 (fun i hi' hik => ?_) h7 m (by omega)
      rcases Nat.lt_or_ge i ((lo + hi) / 2) with h8 | h8
      ·exact cmp_trans (List.pairwise_iff_getElem.1 hs i _ hi' hmid h8) hc
      ·have : i = (lo + hi) / 2 := by omega
       subst this
       exact hc
     ·rw [decide_eq_false hc]
      refine ih lo ((lo + hi) / 2) (by omega) (by omega) (by omega) h6 (fun i hi' hik => ?_) m (by omega)
      rcases Nat.lt_or_ge ((lo + hi) / 2) i with h8 | h8
      ·intro h9
       exact hc (cmp_trans (List.pairwise_iff_getElem.1 hs _ i hmid hi' h8) h9)
      ·have : i = (lo + hi) / 2 := by omega
       subst this
       exact hc
    ·have : lo = hi := by omega
     subst this
     exact ⟨lo, h5, h2 _ lo, h6, h7⟩
 exact key rows.length 0 rows.length (by omega) (by omega) (Nat.le_refl _) (fun i _ h => by omega) (fun i h h' => by omega) fz (lt_fz hl)
/-- and whether it is there -/
theorem place_is {rows : List Row} {row : Row} (hs : Srt rows) {k : Nat} (hk : k <= rows.length) (h1 : ∀ i (hi : i < rows.length), i < k -> cmpB rows[i] row < 0) (h2 : ∀ i (hi : i < rows.length), k <= i -> ¬ cmpB rows[i] row < 0) :
  (atB rows k fun x => cmpB x row == 0) = rows.contains row := by
 rw [Bool.eq_iff_iff, List.contains_iff_mem]
 constructor
 ·intro h
  rcases Nat.lt_or_ge k rows.length with hlt | hge
  ·rw [atB_lt hlt, beq_iff_eq] at h
   rw [<- cmp_zero h]
   exact List.getElem_mem hlt
  ·unfold atB at h; rw [List.getElem?_eq_none hge] at h; cases h
 ·intro h
  obtain ⟨j, hj, rfl⟩ := List.mem_iff_getElem.1 h
  have hkj : ¬ j < k := fun h3 => by have := h1 j hj h3; rw [cmp_self] at this; omega
  have hlt : k < rows.length := by omega
  rw [atB_lt hlt, beq_iff_eq]
  rcases Nat.lt_or_ge k j with h3 | h3
  ·exact absurd (List.pairwise_iff_getElem.1 hs k j hlt hj h3) (h2 k hlt (Nat.le_refl _))
  ·have : k = j := by omega
   subst this
   exact cmp_self _
theorem s_placeK {r : Rln} {row : Row} (hs : Srt r.2) (hr : smRows r.2) : ∃ k : Nat, k <= r.2.length ∧ spec_l5Place r row = some ((k : Int), r.2.contains row) ∧ (∀ i (hi : i < r.2.length), i < k -> cmpB r.2[i] row < 0) ∧ ∀ i (hi : i < r.2.length), k <= i -> ¬ cmpB r.2[i] row < 0 := by
 obtain ⟨k, hk, hl, h1, h2⟩ := half_loop (B := spec_l5Place_B1 r row) (row := row) hs hr.1 (fun rec lo hi m h1 h2 h3 hm => by
  have := hr.1
  unfold lim at this
  simp only [spec_l5Place_B1]
  have hlh : (lo : Int) + (hi : Int) <= 2199023255552 := by omega
  have e1 : IntKind.i64.wrap ((lo : Int) + (hi : Int)) = ((lo + hi : Nat) : Int) := by rw [wrap_in ⟨by omega, by omega⟩]; omega
  have e2 : IntKind.i64.wrap (Int.tdiv ((lo + hi : Nat) : Int) 2) = ((m : Nat) : Int) := by
   have e3 : Int.tdiv ((lo + hi : Nat) : Int) 2 = (((lo + hi) / 2 : Nat) : Int) := by rw [Int.tdiv_eq_ediv_of_nonneg (by omega)]; omega
   rw [e3, <- h3, wrap_in ⟨by omega, by omega⟩]
  rw [decide_eq_true (by omega), e1, e2, geti_at hm]
  simp only [cond_true, obind]
  rw [s_cmp (hr.2 _ (List.getElem_mem hm))]
  simp only
  rw [wrap_in (by omega)]
  simp) (fun rec lo => by simp only [spec_l5Place_B1]; rw [nlt_dec]; rfl)
 unfold spec_l5Place
 rw [hl]
 simp only [obind]
 have hp := place_is (row := row) hs hk h1 h2
 rcases Nat.lt_or_ge k r.2.length with hlt | hge
 ·rw [lt_dec hlt, geti_at hlt]
  simp only [cond_true, s_cmp (hr.2 _ (List.getElem_mem hlt)), spec_l5Place_J2]
  rw [atB_lt hlt] at hp
  exact ⟨k, hk, by rw [hp], h1, h2⟩
 ·rw [decide_eq_false (by omega)]
  have : (atB r.2 k fun x => cmpB x row == 0) = false := by unfold atB; rw [List.getElem?_eq_none hge]
  rw [this] at hp
  exact ⟨k, hk, by rw [<- hp]; rfl, h1, h2⟩
theorem i_placeK {rows : List Row} {row : Row} (hs : Srt rows) (hr : smRows rows) : ∃ k : Nat, k <= rows.length ∧ impl_place rows row = some ((k : Int), rows.contains row) ∧ (∀ i (hi : i < rows.length), i < k -> cmpB rows[i] row < 0) ∧ ∀ i (hi : i < rows.length), k <= i -> ¬ cmpB rows[i] row < 0 := by
 obtain ⟨k, hk, hl, h1, h2⟩ := half_loop (B := impl_place_B1 rows row) (row := row) hs hr.1 (fun rec lo hi m h1 h2 h3 hm => by
  have := hr.1
  unfold lim at this
  simp only [impl_place_B1]
  have hlh : (lo : Int) + (hi : Int) <= 2199023255552 := by omega
  have e1 : IntKind.i64.wrap ((lo : Int) + (hi : Int)) = ((lo + hi : Nat) : Int) := by rw [wrap_in ⟨by omega, by omega⟩]; omega
  have e2 : IntKind.i64.wrap (Int.tdiv ((lo + hi : Nat) : Int) 2) = ((m : Nat) : Int) := by
   have e3 : Int.tdiv ((lo + hi : Nat) : Int) 2 = (((lo + hi) / 2 : Nat) : Int) := by rw [Int.tdiv_eq_ediv_of_nonneg (by omega)]; omega
   rw [e3, <- h3, wrap_in ⟨by omega, by omega⟩]
  rw [decide_eq_true (by omega), e1, e2, geti_at hm]
  simp only [cond_true, obind]
  rw [i_cmp (hr.2 _ (List.getElem_mem hm))]
  simp only
  rw [wrap_in (by omega)]
  simp) (fun rec lo => by simp only [impl_place_B1]; rw [nlt_dec]; rfl)
 unfold impl_place
 rw [hl]
 simp only [obind]
 have hp := place_is (row := row) hs hk h1 h2
 rcases Nat.lt_or_ge k rows.length with hlt | hge
 ·rw [lt_dec hlt, geti_at hlt]
  simp only [cond_true, i_cmp (hr.2 _ (List.getElem_mem hlt)), impl_place_J2]
  rw [atB_lt hlt] at hp
  exact ⟨k, hk, by rw [hp], h1, h2⟩
 ·rw [decide_eq_false (by omega)]
  have : (atB rows k fun x => cmpB x row == 0) = false := by unfold atB; rw [List.getElem?_eq_none hge]
  rw [this] at hp
  exact ⟨k, hk, by rw [<- hp]; rfl, h1, h2⟩
/-! ### taking away, uniting -/
theorem filt_step {α : Type} {l : List α} {k : Nat} (hk : k < l.length) (p : α -> Bool) : (l.take (k + 1)).filter p = (l.take k).filter p ++ cond (p l[k]) [l[k]] [] := by
 rw [List.take_succ_eq_append_getElem hk, List.filter_append]
 cases h : p l[k] <;> simp [h]
theorem filt_few {α : Type} {l : List α} {k : Nat} (hk : k < l.length) (hl : l.length <= lim) (p : α -> Bool) (x : α) : ((l.take k).filter p).length + [x].length <= lim := by
 have := List.length_filter_le p (l.take k)
 rw [List.length_take] at this
 simp only [List.length_singleton]
 omega
/-! ### changes -/
abbrev Dlt := List UInt8 × Rln × Rln
section
variable {d : List Tbl} {x : Dlt}
end
end Go.Proofs.YtceghmdneadhbaaGreat
