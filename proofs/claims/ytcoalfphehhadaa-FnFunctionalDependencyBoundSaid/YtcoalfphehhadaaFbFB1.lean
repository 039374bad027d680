/-
  The bound from functional dependencies: the reference and the program agree. On the printed functions; conditions: sizes.
-/
import Derived.Test.YtcoalfphehhadaaFcFB1
import Derived.Test.YtcoalfphehhadaaUnFB1
import Derived.Test.YtcoalfphehhadaaAbFB1
import Derived.Test.YtcoalfphehhadaaFhFB1
-- pure
namespace Go.Proofs.Ytcoalfphehhadaa
open Go.RowKit
set_option linter.unusedVariables false
set_option linter.unusedSimpArgs false
/-! ### sets of variables as numbers -/
def mk5 (b : Nat → Bool) : Int := cond (b 0) 1 0 + (cond (b 1) 2 0 + (cond (b 2) 4 0 + (cond (b 3) 8 0 + cond (b 4) 16 0)))
theorem mk5_congr {b c : Nat → Bool} (h : ∀ v, v < 5 → b v = c v) : mk5 b = mk5 c := by
  unfold mk5
  rw [h 0 (by omega), h 1 (by omega), h 2 (by omega), h 3 (by omega), h 4 (by omega)]
def or5 (b0 b1 b2 b3 b4 : Bool) (e : Nat) : Bool := orI (cond b0 1 0 + (cond b1 2 0 + (cond b2 4 0 + (cond b3 8 0 + cond b4 16 0)))) (shlI 1 (e : Int)) == cond (b0 || 0 == e) 1 0 + (cond (b1 || 1 == e) 2 0 + (cond (b2 || 2 == e) 4 0 + (cond (b3 || 3 == e) 8 0 + cond (b4 || 4 == e) 16 0)))
def allB (f : Bool → Bool) : Bool := f false && f true
theorem allB_ok {f : Bool → Bool} (h : allB f = true) (b : Bool) : f b = true := by
  unfold allB at h
  rw [Bool.and_eq_true] at h
  cases b
  · exact h.1
  · exact h.2
theorem or5_all : (List.range 5).all (fun e => allB fun b0 => allB fun b1 => allB fun b2 => allB fun b3 => allB fun b4 => or5 b0 b1 b2 b3 b4 e) = true := by kernel_rfl
theorem or_bit (b : Nat → Bool) {e : Nat} (he : e < 5) : orI (mk5 b) (shlI 1 (e : Int)) = mk5 (fun v => b v || v == e) := by
  have h := List.all_eq_true.1 or5_all e (List.mem_range.2 he)
  exact eq_of_beq (allB_ok (allB_ok (allB_ok (allB_ok (allB_ok h (b 0)) (b 1)) (b 2)) (b 3)) (b 4))
theorem fold_set {q : Qry} (h : 1 ≤ q.1 ∧ q.1 ≤ 5) : ∀ (vs : List Int) (b : Nat → Bool), vs.foldl (setOf q) (mk5 b) = mk5 (fun v => b v || (decide ((v : Int) < q.1) && vs.contains (v : Int)))
  | [], b => by rw [List.foldl_nil]; exact mk5_congr fun v _ => by simp
  | x :: vs, b => by
    rw [List.foldl_cons]
    have hb : btw x 0 (IntKind.i64.wrap (q.1 - 1)) = (decide (0 ≤ x) && decide (x < q.1)) := by
      rw [wrap_in (by omega)]
      unfold btw
      rw [Bool.eq_iff_iff]; simp; omega
    rw [show setOf q (mk5 b) x = if btw x 0 (IntKind.i64.wrap (q.1 - 1)) = true then orI (mk5 b) (shlI 1 x) else mk5 b from rfl]
    cases hx : btw x 0 (IntKind.i64.wrap (q.1 - 1)) with
    | true =>
      rw [hb] at hx
      simp only [Bool.and_eq_true, decide_eq_true_eq] at hx
      obtain ⟨e, rfl⟩ := Int.eq_ofNat_of_zero_le hx.1
      rw [if_pos rfl, or_bit b (by omega), fold_set h vs]
      refine mk5_congr fun v hv => ?_
      have hc : (v == e) = (decide ((v : Int) < q.1) && ((v : Int) == (e : Int))) := by
        rw [Bool.eq_iff_iff]; simp; omega
      simp only [List.contains_cons]
      rw [hc]
      cases b v <;> cases decide ((v : Int) < q.1) <;> simp
    | false =>
      rw [hb] at hx
      rw [if_neg (by simp), fold_set h vs]
      refine mk5_congr fun v hv => ?_
      have hc : (decide ((v : Int) < q.1) && ((v : Int) == x)) = false := by
        rw [Bool.and_eq_false_iff] at hx ⊢
        simp only [decide_eq_false_iff_not] at hx
        by_cases e : (v : Int) = x
        · left; simp; omega
        · right; simp [e]
      simp only [List.contains_cons]
      rw [Bool.and_or_distrib_left, hc, Bool.false_or]
theorem clos_set {q : Qry} {fs : List FDep} {vs ws : List Int} (h : ∀ v : Nat, v < 5 → vs.contains (v : Int) = ws.contains (v : Int)) : closB q fs vs = closB q fs ws := by
  unfold closB
  by_cases hq : qryB q = true
  · obtain ⟨h1, h2, -⟩ := qry_facts hq
    have e : ∀ us : List Int, us.foldl (setOf q) 0 = mk5 (fun v => false || (decide ((v : Int) < q.1) && us.contains (v : Int))) := fun us => fold_set ⟨h1, h2⟩ us (fun _ => false)
    rw [if_pos hq, if_pos hq, e, e]
    congr 2
    exact mk5_congr fun v hv => by rw [h v hv]
  · rw [if_neg hq, if_neg hq]
/-! ### the atoms of a set -/
def selB (m : Int) (k : Nat) : Bool := andI (shrI m (k : Int)) 1 == 1
def atmK (L : List Atm) (k : Nat) : Atm := L.getD k ([], [])
def catK (L : List Atm) (m : Int) : Nat → List Int
  | 0 => []
  | k + 1 => cond (selB m k) (catK L m k ++ (atmK L k).2) (catK L m k)
def prodK (z : List Int) (m : Int) : Nat → Int
  | 0 => 1
  | k + 1 => cond (selB m k) (IntKind.i64.wrap (prodK z m k * z.getD k 0)) (prodK z m k)
def setK (L : List Atm) (m : Int) : Nat → (Nat → Bool)
  | 0 => fun _ => false
  | k + 1 => cond (selB m k) (addL (setK L m k) (avL (atmK L k) 5)) (setK L m k)
theorem catK_s (L : List Atm) (m : Int) (k : Nat) : catK L m (k + 1) = cond (selB m k) (catK L m k ++ (atmK L k).2) (catK L m k) := rfl
theorem prodK_s (z : List Int) (m : Int) (k : Nat) : prodK z m (k + 1) = cond (selB m k) (IntKind.i64.wrap (prodK z m k * z.getD k 0)) (prodK z m k) := rfl
theorem setK_s (L : List Atm) (m : Int) (k : Nat) : setK L m (k + 1) = cond (selB m k) (addL (setK L m k) (avL (atmK L k) 5)) (setK L m k) := rfl
theorem atmK_at {L : List Atm} {k : Nat} (h : k < L.length) : atmK L k = L[k] := by unfold atmK; simp [h]
theorem asc_none : ascN 100 (fun _ => false) = [] := by unfold ascN; simp
theorem asc_mem {n : Nat} {S : Nat → Bool} {v : Nat} (hv : v < n) : (ascN n S).contains (v : Int) = S v := by
  rw [Bool.eq_iff_iff, List.contains_iff_mem]
  unfold ascN
  rw [List.mem_map]
  constructor
  · rintro ⟨u, hu, e⟩
    have : u = v := by omega
    subst this
    exact (List.mem_filter.1 hu).2
  · intro hs
    exact ⟨v, List.mem_filter.2 ⟨List.mem_range.2 hv, hs⟩, rfl⟩
theorem cat_set (L : List Atm) (m : Int) : ∀ (k v : Nat), v < 5 → (catK L m k).contains (v : Int) = setK L m k v
  | 0, v, _ => rfl
  | k + 1, v, hv => by
    have ih := cat_set L m k v hv
    rw [catK_s, setK_s]
    cases selB m k with
    | false => exact ih
    | true =>
      show (catK L m k ++ (atmK L k).2).contains (v : Int) = addL (setK L m k) (avL (atmK L k) 5) v
      unfold addL
      rw [← ih, List.contains_eq_any_beq, List.any_append, ← List.contains_eq_any_beq, ← List.contains_eq_any_beq]
      congr 1
      rw [Bool.eq_iff_iff]
      constructor
      · intro h; exact List.contains_iff_mem.2 (av_mem.2 ⟨by omega, h⟩)
      · intro h; exact (av_mem.1 (List.contains_iff_mem.1 h)).2
theorem cat_len {L : List Atm} (h : ∀ a ∈ L, a.2.length ≤ 5) (m : Int) : ∀ k, k ≤ L.length → (catK L m k).length ≤ 5 * k
  | 0, _ => Nat.le_refl _
  | k + 1, hk => by
    have ih := cat_len h m k (by omega)
    have h1 := h _ (List.getElem_mem (show k < L.length by omega))
    rw [catK_s]
    cases selB m k with
    | false => show (catK L m k).length ≤ _; omega
    | true =>
      show (catK L m k ++ (atmK L k).2).length ≤ _
      rw [List.length_append, atmK_at (by omega)]; omega
theorem av_in {a : Atm} {x : Int} (h : x ∈ avL a 5) : 0 ≤ x ∧ x ≤ 99 := by have := (av_mem.1 h).1; omega
section
variable {d : List Tbl} {q : Qry} {fs : List FDep} {z : List Int}
/-- what the loops over the atoms ask -/
structure FbOk (q : Qry) (z : List Int) : Prop where
  few : q.2.1.length ≤ 4
  atm : ∀ a ∈ q.2.1, AtmOk a
  sz : z.length = q.2.1.length
theorem u64_k {n : Int} (h : 0 ≤ n ∧ n < 5) : IntKind.u64.wrap n = n := u64_in h
theorem s_fb3 (hk : FbOk q z) (b : Bool) (m : Int) : loopF (spec_FDBound_B3 q (z, b) m) fz ([], 1, 0) = some (catK q.2.1 m q.2.1.length, prodK z m q.2.1.length) := by
  have h4 := hk.few
  have h5 : ∀ a ∈ q.2.1, a.2.length ≤ 5 := fun a ha => (hk.atm a ha).1
  have := loop_to (body := spec_FDBound_B3 q (z, b) m) (out := (catK q.2.1 m q.2.1.length, prodK z m q.2.1.length)) (fun k => (catK q.2.1 m k, prodK z m k, (k : Int))) q.2.1.length (fun k hlt rec => by
    have hl := cat_len h5 m k (by omega)
    have ha := h5 _ (List.getElem_mem hlt)
    have hz : k < z.length := by rw [hk.sz]; exact hlt
    have hw : IntKind.i64.wrap ((k : Int) + 1) = ((k + 1 : Nat) : Int) := by rw [wrap_in (by omega)]; simp
    unfold spec_FDBound_B3 spec_FDBound_J4
    simp only
    rw [lt_dec hlt, cond_true, chk_pos (by omega), hw]
    rw [show (andI (shrI m (k : Int)) 1 == 1) = selB m k from rfl]
    rw [catK_s, prodK_s]
    cases selB m k with
    | false => rfl
    | true =>
      simp only [cond_true, geti_at hlt, geti_at hz, obind]
      rw [chk_pos (by unfold lim; omega), atmK_at hlt, show z.getD k 0 = z[k] by simp [hz]]) (fun rec => by
    unfold spec_FDBound_B3
    simp only [nlt_dec, cond_false]) fz (lt_fz (by unfold lim; omega))
  exact this
theorem i_fb4 (hk : FbOk q z) (b : Bool) (m : Int) : loopF (impl_FDBound_B4 q (z, b) m) fz ([], 1, 0) = some (ascN 100 (setK q.2.1 m q.2.1.length), prodK z m q.2.1.length) := by
  have h4 := hk.few
  have := loop_to (body := impl_FDBound_B4 q (z, b) m) (out := (ascN 100 (setK q.2.1 m q.2.1.length), prodK z m q.2.1.length)) (fun k => (ascN 100 (setK q.2.1 m k), prodK z m k, (k : Int))) q.2.1.length (fun k hlt rec => by
    have ha := (hk.atm _ (List.getElem_mem hlt)).1
    have hla : (q.2.1[k]).2.length ≤ lim := by unfold lim; omega
    have hz : k < z.length := by rw [hk.sz]; exact hlt
    have hw : IntKind.i64.wrap ((k : Int) + 1) = ((k + 1 : Nat) : Int) := by rw [wrap_in (by omega)]; simp
    unfold impl_FDBound_B4 impl_FDBound_J5
    simp only
    rw [lt_dec hlt, cond_true, geti_at hlt]
    simp only [obind]
    rw [u64_k (by omega), chk_pos (by omega), hw]
    rw [show (andI (shrI m (k : Int)) 1 == 1) = selB m k from rfl]
    rw [setK_s, prodK_s]
    cases selB m k with
    | false => rfl
    | true =>
      simp only [cond_true]
      rw [i_av hla (i_cv hla)]
      simp only [obind]
      rw [i_unite (by have := avL_len (q.2.1[k]) 5; unfold lim; omega) (fun x hx => av_in hx)]
      simp only [geti_at hz]
      rw [atmK_at hlt, show z.getD k 0 = z[k] by simp [hz]]) (fun rec => by
    unfold impl_FDBound_B4
    simp only [nlt_dec, cond_false]) fz (lt_fz (by unfold lim; omega))
  rw [show ascN 100 (setK q.2.1 m 0) = [] from asc_none] at this
  exact this
/-- the best bound of the first sets -/
def bestK (q : Qry) (fs : List FDep) (z : List Int) : Nat → Int
  | 0 => -1
  | k + 1 => cond (((closB q fs (catK q.2.1 (k : Int) q.2.1.length)).length : Int) == q.1 && (decide (bestK q fs z k < 0) || decide (prodK z (k : Int) q.2.1.length < bestK q fs z k))) (prodK z (k : Int) q.2.1.length) (bestK q fs z k)
theorem shl_n {n : Nat} (h : n ≤ 4) : shlI 1 (n : Int) = ((2 ^ n : Nat) : Int) ∧ 2 ^ n ≤ 16 := by
  match n, h with
  | 0, _ => exact ⟨by decide, by decide⟩
  | 1, _ => exact ⟨by decide, by decide⟩
  | 2, _ => exact ⟨by decide, by decide⟩
  | 3, _ => exact ⟨by decide, by decide⟩
  | 4, _ => exact ⟨by decide, by decide⟩
theorem s_fb2 (hq : smQ q) (hk : FbOk q z) (hl : fs.length ≤ lim) (hf : ∀ f ∈ fs, f.2.1.length ≤ lim) (b : Bool) : loopF (spec_FDBound_B2 q fs (z, b)) fz ((-1), 0) = some (bestK q fs z (2 ^ q.2.1.length)) := by
  have h4 := hk.few
  have h5 : ∀ a ∈ q.2.1, a.2.length ≤ 5 := fun a ha => (hk.atm a ha).1
  obtain ⟨e1, e2⟩ := shl_n h4
  have := loop_to (body := spec_FDBound_B2 q fs (z, b)) (out := bestK q fs z (2 ^ q.2.1.length)) (fun k => (bestK q fs z k, (k : Int))) (2 ^ q.2.1.length) (fun k hlt rec => by
    have hlc := cat_len h5 (k : Int) q.2.1.length (Nat.le_refl _)
    have hw : IntKind.i64.wrap ((k : Int) + 1) = ((k + 1 : Nat) : Int) := by rw [wrap_in (by omega)]; simp
    unfold spec_FDBound_B2 spec_FDBound_J5 spec_FDBound_J6
    simp only
    rw [chk_pos (by omega), e1, lt_dec hlt, cond_true, s_fb3 hk]
    simp only [obind]
    rw [s_clos hq hl hf (by unfold lim; omega)]
    simp only [hw]
    rw [bestK]
    cases ((closB q fs (catK q.2.1 (k : Int) q.2.1.length)).length : Int) == q.1 <;> cases decide (bestK q fs z k < 0) <;> cases decide (prodK z (k : Int) q.2.1.length < bestK q fs z k) <;> rfl) (fun rec => by
    unfold spec_FDBound_B2
    simp only
    rw [chk_pos (by omega), e1, nlt_dec, cond_false]) fz (lt_fz (by unfold lim; omega))
  exact this
theorem i_fb3 (hq : smQ q) (hk : FbOk q z) (hl : fs.length ≤ lim) (hf : ∀ f ∈ fs, f.2.1.length ≤ lim) (b : Bool) : loopF (impl_FDBound_B3 q fs (z, b)) fz ((-1), 0) = some (bestK q fs z (2 ^ q.2.1.length)) := by
  have h4 := hk.few
  obtain ⟨e1, e2⟩ := shl_n h4
  have := loop_to (body := impl_FDBound_B3 q fs (z, b)) (out := bestK q fs z (2 ^ q.2.1.length)) (fun k => (bestK q fs z k, (k : Int))) (2 ^ q.2.1.length) (fun k hlt rec => by
    have hw : IntKind.i64.wrap ((k : Int) + 1) = ((k + 1 : Nat) : Int) := by rw [wrap_in (by omega)]; simp
    have hc : closB q fs (ascN 100 (setK q.2.1 (k : Int) q.2.1.length)) = closB q fs (catK q.2.1 (k : Int) q.2.1.length) := clos_set fun v hv => by rw [asc_mem (by omega), cat_set _ _ _ _ hv]
    unfold impl_FDBound_B3 impl_FDBound_J6 impl_FDBound_J7
    simp only
    rw [u64_k (by omega), chk_pos (by omega), e1, lt_dec hlt, cond_true, i_fb4 hk]
    simp only [obind]
    rw [i_clos hq hl hf (by have := ascN_len 100 (setK q.2.1 (k : Int) q.2.1.length); unfold lim; omega), hc]
    simp only [hw]
    rw [bestK]
    cases ((closB q fs (catK q.2.1 (k : Int) q.2.1.length)).length : Int) == q.1 <;> cases decide (bestK q fs z k < 0) <;> cases decide (prodK z (k : Int) q.2.1.length < bestK q fs z k) <;> rfl) (fun rec => by
    unfold impl_FDBound_B3
    simp only
    rw [u64_k (by omega), chk_pos (by omega), e1, nlt_dec, cond_false]) fz (lt_fz (by unfold lim; omega))
  exact this
/-! ### sizes of the atoms -/
def szsB (d : List Tbl) (q : Qry) : List Int := q.2.1.map fun a => ((abB d a).2.length : Int)
theorem s_sizes (h : smDb d) (hq : smQ q) : spec_AtomSizes d q = some (cond (qforB d q) (szsB d q, true) ([], false)) := by
  unfold spec_AtomSizes
  rw [s_qfor h hq]
  simp only [obind]
  cases hb : qforB d q with
  | false => rfl
  | true =>
    obtain ⟨g1, g2, g3⟩ := qfor_facts hb
    rw [Bool.not_true, cond_false, map_loop (a := q.2.1) (h := fun a => ((abB d a).2.length : Int)) (by unfold lim; omega) (fun k hk rec => by
      have ha := g2 _ (List.getElem_mem hk)
      unfold spec_AtomSizes_B1
      simp only
      rw [lt_dec hk, cond_true, geti_at hk]
      simp only [obind]
      rw [s_ab h ha.1 ha.2]
      simp only
      rw [chk_pos (by simp only [List.length_map, List.length_take, List.length_singleton]; unfold lim; omega), wrap_s hk (lim_max (by unfold lim; omega))]) (fun rec y => by unfold spec_AtomSizes_B1; simp only [nlt_dec, cond_false])]
    rfl
theorem i_sizes (h : smDb d) (hq : smQ q) : impl_AtomSizes d q = some (cond (qforB d q) (szsB d q, true) ([], false)) := by
  unfold impl_AtomSizes
  rw [i_qfor h hq]
  simp only [obind]
  cases hb : qforB d q with
  | false => rfl
  | true =>
    obtain ⟨g1, g2, g3⟩ := qfor_facts hb
    rw [Bool.not_true, cond_false, map_loop (a := q.2.1) (h := fun a => ((abB d a).2.length : Int)) (by unfold lim; omega) (fun k hk rec => by
      have ha := g2 _ (List.getElem_mem hk)
      unfold impl_AtomSizes_B1
      simp only
      rw [lt_dec hk, cond_true, geti_at hk]
      simp only [obind]
      rw [i_ab h ha.1 ha.2]
      simp only
      rw [chk_pos (by simp only [List.length_map, List.length_take, List.length_singleton]; unfold lim; omega), wrap_s hk (lim_max (by unfold lim; omega))]) (fun rec y => by unfold impl_AtomSizes_B1; simp only [nlt_dec, cond_false])]
    rfl
/-! ### the dependencies hold -/
def hldB (d : List Tbl) (f : FDep) : Bool := (spec_FDHolds d f).getD false
theorem hld_ok (h : smDb d) {f : FDep} (hl : f.2.1.length ≤ lim) : spec_FDHolds d f = some (hldB d f) ∧ impl_FDHolds d f = some (hldB d f) := by
  obtain ⟨b, h1, h2⟩ := holds_same h hl
  unfold hldB
  rw [h1]
  exact ⟨rfl, h2⟩
theorem s_fb1 (h : smDb d) (hl : fs.length ≤ lim) (hf : ∀ f ∈ fs, f.2.1.length ≤ lim) : loopF (spec_FDBound_B1 d fs) fz 0 = some (match fs.find? fun f => !hldB d f with
    | some _ => .inr (0, false)
    | none => .inl ()) := by
  rw [find_loop (a := fs) (fun f => !hldB d f) (fun _ => ((0, false) : Int × Bool)) hl (fun k hk rec => by
    unfold spec_FDBound_B1
    rw [lt_dec hk, cond_true, geti_at hk]
    simp only [obind]
    rw [(hld_ok h (hf _ (List.getElem_mem hk))).1, wrap_s hk (lim_max hl)]) (fun rec => by
    unfold spec_FDBound_B1
    rw [nlt_dec, cond_false])]
  cases fs.find? fun f => !hldB d f <;> rfl
theorem i_fb1 (h : smDb d) (hl : fs.length ≤ lim) (hf : ∀ f ∈ fs, f.2.1.length ≤ lim) (b : Bool) : loopF (impl_FDBound_B1 d fs) fz (b, 0) = some (fs.foldl (fun c f => c && hldB d f) b) := by
  refine loop_st (fun c f => c && hldB d f) hl b (fun k hk s rec => ?_) (fun s rec => ?_)
  · unfold impl_FDBound_B1 impl_FDBound_J2
    simp only
    rw [lt_dec hk, cond_true, geti_at hk, wrap_s hk (lim_max hl)]
    simp only [obind]
    rw [(hld_ok h (hf _ (List.getElem_mem hk))).2]
    cases s <;> rfl
  · unfold impl_FDBound_B1
    simp only [nlt_dec, cond_false]
theorem fold_and (p : FDep → Bool) : ∀ (l : List FDep) (b : Bool), l.foldl (fun c f => c && p f) b = (b && l.all p)
  | [], b => by simp
  | f :: l, b => by rw [List.foldl_cons, fold_and p l, List.all_cons, Bool.and_assoc]
theorem find_all (p : FDep → Bool) (l : List FDep) : (match l.find? fun f => !p f with
    | some _ => (.inr (0, false) : Sum Unit (Int × Bool))
    | none => .inl ()) = cond (l.all p) (.inl ()) (.inr (0, false)) := by
  cases hf : l.find? fun f => !p f with
  | some e =>
    have h1 := List.find?_some hf
    have h2 := List.mem_of_find?_eq_some hf
    have : l.all p = false := by
      cases ha : l.all p with
      | false => rfl
      | true => have := List.all_eq_true.1 ha e h2; rw [this] at h1; cases h1
    rw [this]; rfl
  | none =>
    have : l.all p = true := List.all_eq_true.2 fun x hx => by
      have := List.find?_eq_none.1 hf x hx
      simpa using this
    rw [this]; rfl
def fbB (d : List Tbl) (q : Qry) (fs : List FDep) : Int × Bool := cond (qforB d q && fs.all (hldB d)) (bestK q fs (szsB d q) (2 ^ q.2.1.length), true) (0, false)
theorem fb_ok (h : qforB d q = true) : FbOk q (szsB d q) := by
  obtain ⟨g1, g2, g3⟩ := qfor_facts h
  exact ⟨g3, fun a ha => (g2 a ha).1, by unfold szsB; rw [List.length_map]⟩
theorem s_fb (h : smDb d) (hq : smQ q) (hl : fs.length ≤ lim) (hf : ∀ f ∈ fs, f.2.1.length ≤ lim) : spec_FDBound d q fs = some (fbB d q fs) := by
  unfold spec_FDBound fbB
  rw [s_sizes h hq]
  simp only [obind]
  cases hb : qforB d q with
  | false => rfl
  | true =>
    simp only [cond_true, Bool.not_true, cond_false, Bool.true_and]
    rw [s_fb1 h hl hf, find_all]
    cases fs.all (hldB d) with
    | false => rfl
    | true =>
      simp only [cond_true]
      rw [s_fb2 hq (fb_ok hb) hl hf]
theorem i_fb (h : smDb d) (hq : smQ q) (hl : fs.length ≤ lim) (hf : ∀ f ∈ fs, f.2.1.length ≤ lim) : impl_FDBound d q fs = some (fbB d q fs) := by
  unfold impl_FDBound fbB
  rw [i_sizes h hq]
  simp only [obind]
  rw [i_fb1 h hl hf, fold_and]
  cases hb : qforB d q with
  | false => rfl
  | true =>
    simp only [cond_true, Bool.true_and]
    cases fs.all (hldB d) with
    | false => rfl
    | true =>
      simp only [cond_true, Bool.not_true, cond_false]
      rw [i_fb3 hq (fb_ok hb) hl hf]
end
end Go.Proofs.Ytcoalfphehhadaa
