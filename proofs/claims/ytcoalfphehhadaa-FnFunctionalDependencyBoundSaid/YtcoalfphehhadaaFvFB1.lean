/-
  The variables of a dependency in each atom: the reference and the program agree. On the printed functions; conditions: lengths.
-/
import Derived.Test.YtcoalfphehhadaaQuFB1
-- pure
namespace Go.Proofs.Ytcoalfphehhadaa
open Go.RowKit
set_option linter.unusedSimpArgs false
set_option linter.unusedVariables false
abbrev FDep := List UInt8 × List Int × Int
/-- a column of the atom -/
def inr (a : Atm) (c : Int) : Bool := btw c 0 (IntKind.i64.wrap ((a.2.length : Int) - 1))
theorem inr_t {a : Atm} {c : Int} (hl : a.2.length ≤ 5) (h : inr a c = true) : 0 ≤ c ∧ c < a.2.length := by
  unfold inr at h
  rw [wrap_in (by omega)] at h
  have : 0 ≤ c ∧ c ≤ (a.2.length : Int) - 1 := by unfold btw at h; simpa using h
  omega
def bitOf (a : Atm) (c : Int) : Int := shlI 1 (atI a.2 c)
def fitK (b0 : Bool) (a : Atm) (F : List Int) (k : Nat) : Bool := b0 && (F.take k).all (inr a)
theorem fitK_s {b0 : Bool} {a : Atm} {F : List Int} {k : Nat} (hk : k < F.length) : fitK b0 a F (k + 1) = (fitK b0 a F k && inr a F[k]) := by
  unfold fitK
  rw [List.take_succ_eq_append_getElem hk, List.all_append]
  simp [Bool.and_assoc]
def iM (a : Atm) (F : List Int) : Nat → Int
  | 0 => 0
  | k + 1 => if atB F k (inr a) = true then orI (iM a F k) (bitOf a (F.getD k 0)) else iM a F k
def sM (b0 : Bool) (a : Atm) (F : List Int) : Nat → Int
  | 0 => 0
  | k + 1 => if fitK b0 a F (k + 1) = true then orI (sM b0 a F k) (bitOf a (F.getD k 0)) else sM b0 a F k
theorem sM_iM {b0 : Bool} {a : Atm} {F : List Int} : ∀ {k : Nat}, k ≤ F.length → fitK b0 a F k = true → sM b0 a F k = iM a F k
  | 0, _, _ => rfl
  | k + 1, hk, h => by
    have h1 := h
    rw [fitK_s (by omega)] at h1
    simp only [Bool.and_eq_true] at h1
    rw [sM, iM, if_pos h, atB_lt (by omega), if_pos h1.2, sM_iM (by omega) h1.1]
theorem getD_lt {l : List Int} {k : Nat} (h : k < l.length) : l.getD k 0 = l[k] := by simp [h]
section
variable {q : Qry} {f : FDep} {a : Atm}
theorem s_inner (hf : f.2.1.length ≤ lim) (hl : a.2.length ≤ 5) (hv : ∀ v ∈ a.2, 0 ≤ v ∧ v < 5) (b0 : Bool) : loopF (spec_FDVariables_B3 f a) fz (b0, 0, 0) = some (fitK b0 a f.2.1 f.2.1.length, sM b0 a f.2.1 f.2.1.length) := by
  have := loop_to (body := spec_FDVariables_B3 f a) (out := (fitK b0 a f.2.1 f.2.1.length, sM b0 a f.2.1 f.2.1.length)) (fun k => (fitK b0 a f.2.1 k, sM b0 a f.2.1 k, (k : Int))) f.2.1.length (fun k hk rec => ?_) (fun rec => ?_) fz (lt_fz hf)
  · simpa [fitK, sM] using this
  · simp only [spec_FDVariables_B3, lt_dec hk, cond_true, geti_at hk, obind, s_l1In]
    have e1 : btw f.2.1[k] 0 (IntKind.i64.wrap ((a.2.length : Int) - 1)) = inr a f.2.1[k] := rfl
    rw [e1]
    cases h1 : fitK b0 a f.2.1 k with
    | false =>
      have h2 : fitK b0 a f.2.1 (k + 1) = false := by rw [fitK_s hk, h1]; rfl
      simp only [cond_false, spec_FDVariables_J4, spec_FDVariables_J5, wrap_s hk (lim_max hf), sM, h2, Bool.false_eq_true, if_false]
    | true =>
      cases h3 : inr a f.2.1[k] with
      | false =>
        have h2 : fitK b0 a f.2.1 (k + 1) = false := by rw [fitK_s hk, h1, h3]; rfl
        simp only [cond_true, cond_false, spec_FDVariables_J4, spec_FDVariables_J5, wrap_s hk (lim_max hf), sM, h2, Bool.false_eq_true, if_false]
      | true =>
        have h2 : fitK b0 a f.2.1 (k + 1) = true := by rw [fitK_s hk, h1, h3]; rfl
        have h4 := inr_t hl h3
        have h5 : 0 ≤ atI a.2 f.2.1[k] := by
          unfold atI geti
          rw [if_pos h4.1, List.getElem?_eq_getElem (by omega)]
          exact (hv _ (List.getElem_mem _)).1
        simp only [cond_true, spec_FDVariables_J4, geti_at hk, obind, geti_ok h4, chk_pos h5, spec_FDVariables_J5, wrap_s hk (lim_max hf), sM, h2, if_true, bitOf, getD_lt hk]
  · simp only [spec_FDVariables_B3, nlt_dec, cond_false]
theorem u64_in {n : Int} (h : 0 ≤ n ∧ n < 5) : IntKind.u64.wrap n = n := by
  unfold IntKind.wrap
  simp [IntKind.signed, IntKind.bits] <;> omega
theorem i_inner (hf : f.2.1.length ≤ lim) (hl : a.2.length ≤ 5) (hv : ∀ v ∈ a.2, 0 ≤ v ∧ v < 5) (b0 : Bool) : loopF (impl_FDVariables_B3 f a) fz (b0, 0, 0) = some (fitK b0 a f.2.1 f.2.1.length, iM a f.2.1 f.2.1.length) := by
  have := loop_to (body := impl_FDVariables_B3 f a) (out := (fitK b0 a f.2.1 f.2.1.length, iM a f.2.1 f.2.1.length)) (fun k => (fitK b0 a f.2.1 k, iM a f.2.1 k, (k : Int))) f.2.1.length (fun k hk rec => ?_) (fun rec => ?_) fz (lt_fz hf)
  · simpa [fitK, iM] using this
  · simp only [impl_FDVariables_B3, lt_dec hk, cond_true, geti_at hk, obind, i_within]
    have e1 : btw f.2.1[k] 0 (IntKind.i64.wrap ((a.2.length : Int) - 1)) = inr a f.2.1[k] := rfl
    rw [e1]
    cases h3 : inr a f.2.1[k] with
    | false =>
      have h2 : fitK b0 a f.2.1 (k + 1) = false := by rw [fitK_s hk, h3, Bool.and_false]
      simp only [Bool.not_false, cond_true, impl_FDVariables_J4, wrap_s hk (lim_max hf), iM, atB_lt hk, h3, h2, Bool.false_eq_true, if_false]
    | true =>
      have h2 : fitK b0 a f.2.1 (k + 1) = fitK b0 a f.2.1 k := by rw [fitK_s hk, h3, Bool.and_true]
      have h4 := inr_t hl h3
      have h5 : 0 ≤ atI a.2 f.2.1[k] ∧ atI a.2 f.2.1[k] < 5 := by
        unfold atI geti
        rw [if_pos h4.1, List.getElem?_eq_getElem (by omega)]
        exact hv _ (List.getElem_mem _)
      simp only [Bool.not_true, cond_false, geti_ok h4, u64_in h5, chk_pos h5.1, impl_FDVariables_J4, wrap_s hk (lim_max hf), iM, atB_lt hk, h3, h2, if_true, bitOf, getD_lt hk]
  · simp only [impl_FDVariables_B3, nlt_dec, cond_false]
/-- what the dependency is in an atom -/
def fdv (f : FDep) (a : Atm) : Int × Int := if fitK ((a.1 == f.1) && inr a f.2.2) a f.2.1 f.2.1.length = true then (iM a f.2.1 f.2.1.length, atI a.2 f.2.2) else (0, -1)
def fdvs (q : Qry) (f : FDep) : List Int × List Int := if qryB q = true then (q.2.1.map fun a => (fdv f a).1, q.2.1.map fun a => (fdv f a).2) else ([], [])
theorem few_lim {n m : Nat} (h : n ≤ m) (hm : m ≤ 1000) : n + 1 ≤ lim := by unfold lim; omega
theorem s_fdv (h : smQ q) (hf : f.2.1.length ≤ lim) : spec_FDVariables q f = some (fdvs q f) := by
  unfold spec_FDVariables
  by_cases hq : qryB q = true
  · obtain ⟨h1, h2, h3, h4⟩ := qry_facts hq
    have := loop_to (body := spec_FDVariables_B1 q f) (out := (q.2.1.map fun a => (fdv f a).1, q.2.1.map fun a => (fdv f a).2)) (fun k => ((q.2.1.take k).map fun a => (fdv f a).1, (q.2.1.take k).map fun a => (fdv f a).2, (k : Int))) q.2.1.length (fun k hk rec => ?_) (fun rec => ?_) fz (lt_fz h.1)
    · simp only [List.take_zero, List.map_nil, Int.natCast_zero] at this
      rw [this, fdvs, if_pos hq]; rfl
    · obtain ⟨g1, g2, g3⟩ := h4 _ (List.getElem_mem hk)
      have hv : ∀ v ∈ (q.2.1[k]).2, 0 ≤ v ∧ v < 5 := fun v hv => by have := g3 v hv; omega
      have hlenN : ∀ (g : Atm → Int) (x : Nat), ((q.2.1.take k).map g).length + [x].length ≤ lim := fun g x => by simp only [List.length_map, List.length_take, List.length_singleton]; exact few_lim (m := 4) (by omega) (by omega)
      have hlen : ∀ (g : Atm → Int) (x : Int), ((q.2.1.take k).map g).length + [x].length ≤ lim := fun g x => by simp only [List.length_map, List.length_take, List.length_singleton]; exact few_lim (m := 4) (by omega) (by omega)
      have hE : spec_FDVariables_B1 q f rec ((q.2.1.take k).map (fun a => (fdv f a).1), (q.2.1.take k).map (fun a => (fdv f a).2), (k : Int)) = spec_FDVariables_J2 rec f ((q.2.1.take k).map fun a => (fdv f a).1) ((q.2.1.take k).map fun a => (fdv f a).2) (k : Int) q.2.1[k] ((q.2.1[k].1 == f.1) && inr q.2.1[k] f.2.2) := by
        simp only [spec_FDVariables_B1, lt_dec hk, cond_true, s_query h, hq, obind, geti_at hk, s_l1In]
        cases (q.2.1[k].1 == f.1) <;> rfl
      rw [hE]
      simp only [spec_FDVariables_J2, s_inner hf g2 hv, obind]
      rw [List.take_succ_eq_append_getElem hk, List.map_append, List.map_append]
      cases hfit : fitK ((q.2.1[k].1 == f.1) && inr q.2.1[k] f.2.2) q.2.1[k] f.2.1 f.2.1.length with
      | true =>
        have hto : inr q.2.1[k] f.2.2 = true := by unfold fitK at hfit; simp only [Bool.and_eq_true] at hfit; exact hfit.1.2
        have e1 : fdv f q.2.1[k] = (iM q.2.1[k] f.2.1 f.2.1.length, atI q.2.1[k].2 f.2.2) := by unfold fdv; rw [if_pos hfit]
        simp only [cond_true]
        rw [chk_pos (hlen _ _)]
        simp only [geti_ok (inr_t g2 hto)]
        rw [chk_pos (hlen _ _)]
        simp only [spec_FDVariables_J6, wrap_s hk (lim_max h.1), sM_iM (Nat.le_refl _) hfit, List.map_cons, List.map_nil, e1]
      | false =>
        have e1 : fdv f q.2.1[k] = (0, -1) := by unfold fdv; rw [if_neg (by rw [hfit]; simp)]
        simp only [cond_false]
        rw [chk_pos (hlenN _ _), chk_pos (hlen _ _)]
        simp only [spec_FDVariables_J6, wrap_s hk (lim_max h.1), List.map_cons, List.map_nil, e1]
    · simp only [spec_FDVariables_B1, nlt_dec, cond_false, List.take_length]
  · have hE : loopF (spec_FDVariables_B1 q f) fz ([], [], 0) = some ([], []) := by
      have hfz : fz = (fz - 1) + 1 := rfl
      rw [hfz, loopF_succ]
      simp only [spec_FDVariables_B1, s_query h, obind]
      rw [show qryB q = false by simpa using hq]
      cases decide ((0 : Int) < (q.2.1.length : Int)) <;> rfl
    rw [hE, fdvs, if_neg hq]; rfl
theorem i_fdv (h : smQ q) (hf : f.2.1.length ≤ lim) : impl_FDVariables q f = some (fdvs q f) := by
  unfold impl_FDVariables
  rw [i_query h]
  by_cases hq : qryB q = true
  · obtain ⟨h1, h2, h3, h4⟩ := qry_facts hq
    have := loop_to (body := impl_FDVariables_B1 q f) (out := (q.2.1.map fun a => (fdv f a).1, q.2.1.map fun a => (fdv f a).2)) (fun k => ((q.2.1.take k).map fun a => (fdv f a).1, (q.2.1.take k).map fun a => (fdv f a).2, (k : Int))) q.2.1.length (fun k hk rec => ?_) (fun rec => ?_) fz (lt_fz h.1)
    · simp only [List.take_zero, List.map_nil, Int.natCast_zero] at this
      rw [fdvs, if_pos hq]
      simp only [obind, hq, Bool.not_true, cond_false, this]
    · obtain ⟨g1, g2, g3⟩ := h4 _ (List.getElem_mem hk)
      have hv : ∀ v ∈ (q.2.1[k]).2, 0 ≤ v ∧ v < 5 := fun v hv => by have := g3 v hv; omega
      have hlenN : ∀ (g : Atm → Int) (x : Nat), ((q.2.1.take k).map g).length + [x].length ≤ lim := fun g x => by simp only [List.length_map, List.length_take, List.length_singleton]; exact few_lim (m := 4) (by omega) (by omega)
      have hlen : ∀ (g : Atm → Int) (x : Int), ((q.2.1.take k).map g).length + [x].length ≤ lim := fun g x => by simp only [List.length_map, List.length_take, List.length_singleton]; exact few_lim (m := 4) (by omega) (by omega)
      have hE : impl_FDVariables_B1 q f rec ((q.2.1.take k).map (fun a => (fdv f a).1), (q.2.1.take k).map (fun a => (fdv f a).2), (k : Int)) = impl_FDVariables_J2 rec f ((q.2.1.take k).map fun a => (fdv f a).1) ((q.2.1.take k).map fun a => (fdv f a).2) (k : Int) q.2.1[k] ((q.2.1[k].1 == f.1) && inr q.2.1[k] f.2.2) := by
        simp only [impl_FDVariables_B1, lt_dec hk, cond_true, obind, geti_at hk, i_within]
        cases (q.2.1[k].1 == f.1) <;> rfl
      rw [hE]
      simp only [impl_FDVariables_J2, i_inner hf g2 hv, obind]
      rw [List.take_succ_eq_append_getElem hk, List.map_append, List.map_append]
      cases hfit : fitK ((q.2.1[k].1 == f.1) && inr q.2.1[k] f.2.2) q.2.1[k] f.2.1 f.2.1.length with
      | true =>
        have hto : inr q.2.1[k] f.2.2 = true := by unfold fitK at hfit; simp only [Bool.and_eq_true] at hfit; exact hfit.1.2
        have e1 : fdv f q.2.1[k] = (iM q.2.1[k] f.2.1 f.2.1.length, atI q.2.1[k].2 f.2.2) := by unfold fdv; rw [if_pos hfit]
        simp only [cond_true]
        rw [chk_pos (hlen _ _)]
        simp only [geti_ok (inr_t g2 hto)]
        rw [chk_pos (hlen _ _)]
        simp only [impl_FDVariables_J5, wrap_s hk (lim_max h.1), List.map_cons, List.map_nil, e1]
      | false =>
        have e1 : fdv f q.2.1[k] = (0, -1) := by unfold fdv; rw [if_neg (by rw [hfit]; simp)]
        simp only [cond_false]
        rw [chk_pos (hlenN _ _), chk_pos (hlen _ _)]
        simp only [impl_FDVariables_J5, wrap_s hk (lim_max h.1), List.map_cons, List.map_nil, e1]
    · simp only [impl_FDVariables_B1, nlt_dec, cond_false, List.take_length]
  · simp only [obind]
    rw [show qryB q = false by simpa using hq, fdvs, if_neg hq]; rfl
theorem fdvs_len : (fdvs q f).1.length ≤ 4 ∧ (fdvs q f).2.length ≤ 4 := by
  unfold fdvs
  split
  · rename_i h
    have := (qry_facts h).2.2.1
    simp only [List.length_map]
    omega
  · simp
end
end Go.Proofs.Ytcoalfphehhadaa
