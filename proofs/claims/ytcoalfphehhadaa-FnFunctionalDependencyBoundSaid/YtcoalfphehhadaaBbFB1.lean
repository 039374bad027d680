/-
  The number of bindings is within the bound from dependencies. Plain lists; no conditions.
-/
import Derived.Test.YtcoalfphehhadaaClFB1
import Derived.Test.YtcoalfphehhadaaAlFB1
-- pure
namespace Go.Proofs.Ytcoalfphehhadaa
open Go.RowKit
set_option linter.unusedVariables false
set_option linter.unusedSimpArgs false
section
variable {d : List Tbl} {q : Qry} {fs : List FDep} {z : List Int}
theorem hld_facts (h : smDb d) {f : FDep} (hl : f.2.1.length ≤ lim) (hh : hldB d f = true) : violB (lookB d f.1).1.2 f.2.1 f.2.2 = [] := by
  unfold hldB at hh
  cases hf : fdB d f with
  | false =>
    unfold spec_FDHolds spec_FDHolds_J1 at hh
    simp only [s_fd h hl, hf, obind, cond_false, Option.getD_some] at hh
    cases hh
  | true =>
    unfold spec_FDHolds spec_FDHolds_J1 at hh
    simp only [s_fd h hl, hf, obind, cond_true, s_viol h hl hf, Option.getD_some] at hh
    have := eq_of_beq hh
    exact List.length_eq_zero_iff.1 (by omega)
theorem viol_none {rows : List (List Int)} {F : List Int} {to : Int} (h : violB rows F to = []) {r s : List Int} (hr : r ∈ rows) (hs : s ∈ rows) (he : pickB r F = pickB s F) : atI r to = atI s to := by
  have none_ : ∀ k, k < rows.length → ∀ i, i < k → clashB rows F to k i = false := by
    unfold violB at h
    cases hf : (List.range rows.length).findSome? fun k => (List.range k).findSome? fun i => if clashB rows F to k i = true then some [(i : Int), (k : Int)] else none with
    | none =>
      intro k hk i hi
      have h1 := List.findSome?_eq_none_iff.1 hf k (List.mem_range.2 hk)
      have h2 := List.findSome?_eq_none_iff.1 h1 i (List.mem_range.2 hi)
      cases hc : clashB rows F to k i with
      | false => rfl
      | true => rw [hc] at h2; cases h2
    | some x =>
      rw [hf] at h
      obtain ⟨k, hk, hf⟩ := List.exists_of_findSome?_eq_some hf
      obtain ⟨i, hi, hf⟩ := List.exists_of_findSome?_eq_some hf
      split at hf
      · cases hf; cases h
      · cases hf
  obtain ⟨i, hi, rfl⟩ := List.mem_iff_getElem.1 hr
  obtain ⟨k, hk, rfl⟩ := List.mem_iff_getElem.1 hs
  rcases Nat.lt_trichotomy i k with h1 | h1 | h1
  · have := none_ k hk i h1
    unfold clashB at this
    rw [atB_lt hi, atB_lt hk, he] at this
    simpa using this
  · subst h1; rfl
  · have := none_ i hi k h1
    unfold clashB at this
    rw [atB_lt hk, atB_lt hi, he] at this
    have : atI rows[k] to = atI rows[i] to := by simpa using this
    exact this.symm
def FL (d : List Tbl) (L : List Atm) (m : Int) : Nat → List ((List Int → List Int) × List (List Int))
  | 0 => []
  | k + 1 => cond (selB m k) ((resA (atmK L k), (abB d (atmK L k)).2) :: FL d L m k) (FL d L m k)
theorem FL_s (d : List Tbl) (L : List Atm) (m : Int) (k : Nat) : FL d L m (k + 1) = cond (selB m k) ((resA (atmK L k), (abB d (atmK L k)).2) :: FL d L m k) (FL d L m k) := rfl
theorem FL_mem {L : List Atm} {m : Int} : ∀ {k : Nat}, k ≤ L.length → ∀ p ∈ FL d L m k, ∃ a ∈ L, p = (resA a, (abB d a).2)
  | 0, _, p, hp => by cases hp
  | k + 1, hk, p, hp => by
    rw [FL_s] at hp
    cases hs : selB m k with
    | false => rw [hs] at hp; exact FL_mem (by omega) p hp
    | true =>
      rw [hs] at hp
      rcases List.mem_cons.1 hp with rfl | hp
      · exact ⟨atmK L k, by rw [atmK_at (by omega)]; exact List.getElem_mem _, rfl⟩
      · exact FL_mem (by omega) p hp
theorem FL_cat {L : List Atm} (hL : ∀ a ∈ L, AtmOk a) {m : Int} {x y : List Int} : ∀ {k : Nat}, k ≤ L.length → (∀ p ∈ FL d L m k, p.1 x = p.1 y) → ∀ v ∈ catK L m k, atI x v = atI y v
  | 0, _, _, v, hv => by cases hv
  | k + 1, hk, h, v, hv => by
    rw [catK_s] at hv
    rw [FL_s] at h
    cases hs : selB m k with
    | false => rw [hs] at h hv; exact FL_cat hL (by omega) h v hv
    | true =>
      rw [hs] at h hv
      rcases List.mem_append.1 hv with hv | hv
      · exact FL_cat hL (by omega) (fun p hp => h p (List.mem_cons_of_mem _ hp)) v hv
      · have h1 : resA (atmK L k) x = resA (atmK L k) y := h _ (List.mem_cons_self ..)
        have ha := hL (atmK L k) (by rw [atmK_at (by omega)]; exact List.getElem_mem _)
        unfold resA at h1
        exact List.map_inj_left.1 h1 v (av_mem.2 ⟨ha.2 v hv, List.contains_iff_mem.2 hv⟩)
theorem pow_16 {k : Nat} (h : k ≤ 4) : 16 ^ k ≤ 65536 := by
  have := Nat.pow_le_pow_right (show 0 < 16 by decide) h
  exact this
theorem FL_prod (hq : qforB d q = true) {m : Int} : ∀ {k : Nat}, k ≤ q.2.1.length → prodK (szsB d q) m k = (((FL d q.2.1 m k).map fun p => p.2.length).prod : Nat) ∧ ((FL d q.2.1 m k).map fun p => p.2.length).prod ≤ 16 ^ k
  | 0, _ => ⟨rfl, by simp [FL]⟩
  | k + 1, hk => by
    obtain ⟨g1, g2, g3⟩ := qfor_facts hq
    obtain ⟨h1, h2⟩ := FL_prod hq (m := m) (k := k) (by omega)
    rw [prodK_s, FL_s]
    cases hs : selB m k with
    | false =>
      refine ⟨h1, Nat.le_trans h2 ?_⟩
      rw [Nat.pow_succ]; omega
    | true =>
      have hm : atmK q.2.1 k ∈ q.2.1 := by rw [atmK_at (by omega)]; exact List.getElem_mem _
      have h16 := (ab_rel (g2 _ hm).1 (g2 _ hm).2).2
      have hz : (szsB d q).getD k 0 = ((abB d (atmK q.2.1 k)).2.length : Int) := by
        unfold szsB
        have : k < q.2.1.length := by omega
        rw [atmK_at this]
        simp [this]
      have hp := pow_16 (k := k) (by omega)
      have hmul : (abB d (atmK q.2.1 k)).2.length * ((FL d q.2.1 m k).map fun p => p.2.length).prod ≤ 16 * 16 ^ k := Nat.mul_le_mul h16 h2
      show IntKind.i64.wrap (prodK (szsB d q) m k * (szsB d q).getD k 0) = _ ∧ _
      rw [h1, hz]
      show _ = (((((abB d (atmK q.2.1 k)).2.length :: (FL d q.2.1 m k).map fun p => p.2.length).prod : Nat)) : Int) ∧ ((abB d (atmK q.2.1 k)).2.length :: (FL d q.2.1 m k).map fun p => p.2.length).prod ≤ _
      rw [List.prod_cons, ← Int.natCast_mul, Nat.mul_comm, wrap_in (by omega), Nat.pow_succ]
      exact ⟨rfl, by omega⟩
/-- the bindings are within the product of a set of atoms whose closure is whole -/
theorem bind_count (h : smDb d) (hf : ∀ f ∈ fs, f.2.1.length ≤ lim) (hq : qforB d q = true) (hh : fs.all (hldB d) = true) {rows : List (List Int)} (hn : rows.Nodup) (hr : ∀ x ∈ rows, IsB d q x) {m : Int}
    (hc : ((closB q fs (catK q.2.1 m q.2.1.length)).length : Int) = q.1) : (rows.length : Int) ≤ prodK (szsB d q) m q.2.1.length := by
  obtain ⟨g1, g2, g3⟩ := qfor_facts hq
  rw [(FL_prod hq (Nat.le_refl _)).1]
  refine Int.ofNat_le.2 (prod_cnt _ rows hn (fun x hx p hp => ?_) (fun x hx y hy he => ?_))
  · obtain ⟨a, ha, rfl⟩ := FL_mem (Nat.le_refl _) p hp
    exact res_in (g2 a ha).1 ((hr x hx).2 a ha)
  · have hcat := FL_cat (d := d) (fun a ha => (g2 a ha).1) (Nat.le_refl _) he
    have hcl := clos_ind (q := q) (fs := fs) (vs := catK q.2.1 m q.2.1.length) g1 (A := fun v => atI x (v : Int) = atI y (v : Int)) (fun v hv => hcat _ hv) (fun f hf' a ha e1 e2 e3 hA => by
      have hok := (g2 a ha).1
      have h1 := inr_t hok.1 e2
      have h2 := col_in hok e2
      have hx2 := (hr x hx).2 a ha
      have hy2 := (hr y hy).2 a ha
      rw [e1] at hx2 hy2
      have := viol_none (hld_facts h (hf f hf') (List.all_eq_true.1 hh f hf')) hx2 hy2 (by
        unfold pickB
        refine List.map_congr_left fun c hc => ?_
        have h3 := List.all_eq_true.1 e3 c hc
        have h4 := col_in hok h3
        have h5 := hA c hc
        have e : (((atI a.2 c).toNat : Nat) : Int) = atI a.2 c := by omega
        rw [e] at h5
        have h6 := at_pick (x := x) (inr_t hok.1 h3)
        have h7 := at_pick (x := y) (inr_t hok.1 h3)
        unfold pickB at h6 h7
        rw [h6, h7, h5])
      rw [at_pick h1, at_pick h1] at this
      have e : (((atI a.2 f.2.2).toNat : Nat) : Int) = atI a.2 f.2.2 := by omega
      rw [e]
      exact this)
    rw [clos_is g1] at hc
    obtain ⟨q1, q2, -⟩ := qry_facts g1
    have hall := asc_len_all (n := q.1.toNat) (by omega : (ascN q.1.toNat (clS q fs (catK q.2.1 m q.2.1.length))).length = q.1.toNat)
    have lx := (hr x hx).1
    have ly := (hr y hy).1
    refine List.ext_getElem (by omega) fun i hi hi' => ?_
    have := hcl i (hall i (by omega))
    rw [atI_n hi, atI_n hi'] at this
    exact this
theorem best_ge {N : Int} (h0 : 0 ≤ N) (h : ∀ k : Nat, ((closB q fs (catK q.2.1 (k : Int) q.2.1.length)).length : Int) = q.1 → N ≤ prodK z (k : Int) q.2.1.length) : ∀ K : Nat, ((∀ j : Nat, j < K → ((closB q fs (catK q.2.1 (j : Int) q.2.1.length)).length : Int) ≠ q.1) ∧ bestK q fs z K = -1) ∨ N ≤ bestK q fs z K
  | 0 => .inl ⟨fun j hj => absurd hj (by omega), rfl⟩
  | K + 1 => by
    rw [bestK]
    by_cases hc : ((closB q fs (catK q.2.1 (K : Int) q.2.1.length)).length : Int) = q.1
    · rw [beq_iff_eq.2 hc, Bool.true_and]
      right
      have h1 := h K hc
      rcases best_ge h0 h K with ⟨_, hb⟩ | hb
      · rw [hb]; exact h1
      · cases decide (bestK q fs z K < 0) || decide (prodK z (K : Int) q.2.1.length < bestK q fs z K) with
        | true => exact h1
        | false => exact hb
    · rw [beq_eq_false_iff_ne.2 hc, Bool.false_and, cond_false]
      rcases best_ge h0 h K with ⟨h1, hb⟩ | hb
      · refine .inl ⟨fun j hj => ?_, hb⟩
        rcases Nat.lt_or_ge j K with h2 | h2
        · exact h1 j h2
        · rw [show j = K by omega]; exact hc
      · exact .inr hb
theorem sel_all {n k : Nat} (hn : n ≤ 4) (hk : k < n) : selB ((2 ^ n - 1 : Nat) : Int) k = true := by
  have : (n = 1 ∨ n = 2 ∨ n = 3 ∨ n = 4) ∧ (k = 0 ∨ k = 1 ∨ k = 2 ∨ k = 3) := by omega
  obtain ⟨h1, h2⟩ := this
  rcases h1 with rfl | rfl | rfl | rfl <;> rcases h2 with rfl | rfl | rfl | rfl <;> first | rfl | (exact absurd hk (by omega))
theorem cat_all {L : List Atm} {m : Int} : ∀ {k : Nat}, k ≤ L.length → (∀ i, i < k → selB m i = true) → ∀ i (hi : i < L.length), i < k → ∀ v ∈ L[i].2, v ∈ catK L m k
  | 0, _, _, i, _, h, v, _ => absurd h (by omega)
  | k + 1, hk, hs, i, hi, h, v, hv => by
    rw [catK_s, hs k (by omega)]
    show v ∈ catK L m k ++ (atmK L k).2
    rcases Nat.lt_or_ge i k with h1 | h1
    · exact List.mem_append_left _ (cat_all (by omega) (fun j hj => hs j (by omega)) i hi h1 v hv)
    · have : i = k := by omega
      subst this
      rw [atmK_at hi]
      exact List.mem_append_right _ hv
theorem used_of (hq : qryB q = true) {v : Nat} (hv : (v : Int) < q.1) : ∃ a ∈ q.2.1, (v : Int) ∈ a.2 := by
  unfold qryB at hq
  simp only [Bool.and_eq_true, Bool.not_eq_true'] at hq
  have h := List.any_eq_false.1 hq.2.2.2.2 v (List.mem_range.2 (by omega))
  have h : usedB q.2.1 (v : Int) = true := by simpa using h
  unfold usedB at h
  obtain ⟨a, ha, hc⟩ := List.any_eq_true.1 h
  exact ⟨a, ha, List.contains_iff_mem.1 hc⟩
/-- the bindings are within the bound -/
theorem bind_bound (h : smDb d) (hf : ∀ f ∈ fs, f.2.1.length ≤ lim) (hb : (fbB d q fs).2 = true) {rows : List (List Int)} (hn : rows.Nodup) (hr : ∀ x ∈ rows, IsB d q x) : (rows.length : Int) ≤ (fbB d q fs).1 := by
  unfold fbB at hb ⊢
  cases hc : qforB d q && fs.all (hldB d) with
  | false => rw [hc] at hb; cases hb
  | true =>
    rw [Bool.and_eq_true] at hc
    obtain ⟨g1, g2, g3⟩ := qfor_facts hc.1
    obtain ⟨q1, q2, -⟩ := qry_facts g1
    show _ ≤ bestK q fs (szsB d q) (2 ^ q.2.1.length)
    rcases best_ge (z := szsB d q) (by omega : (0 : Int) ≤ rows.length) (fun k hk => bind_count h hf hc.1 hc.2 hn hr hk) (2 ^ q.2.1.length) with ⟨h1, _⟩ | h1
    · have hp : 0 < 2 ^ q.2.1.length := Nat.pow_pos (by decide)
      refine absurd ?_ (h1 (2 ^ q.2.1.length - 1) (by omega))
      rw [clos_ext g1 fun v hv => ?_]
      · omega
      · obtain ⟨a, ha, hva⟩ := used_of g1 hv
        obtain ⟨i, hi, rfl⟩ := List.mem_iff_getElem.1 ha
        exact cat_all (Nat.le_refl _) (fun j hj => sel_all g3 hj) i hi hi _ hva
    · exact h1
end
end Go.Proofs.Ytcoalfphehhadaa
