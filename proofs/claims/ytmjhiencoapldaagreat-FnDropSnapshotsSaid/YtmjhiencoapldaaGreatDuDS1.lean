/-
  DropUnusedSnapshots: the reference and the program give the same, and how much. No conditions.
-/
import Derived.Test.YtmjhiencoapldaaGreatAsDS1
import Derived.Test.YtmjhiencoapldaaGreatSrDS1
import Derived.Test.YtmjhiencoapldaaGreatQuDS1
-- pure
namespace Go.Proofs.YtmjhiencoapldaaGreat
open Go.RowKit
set_option linter.unusedVariables false
set_option linter.unusedSimpArgs false
abbrev Csr := Int × List Int × List Int × Qry
def hitB (l : List Csr) (f : Int) : Bool := badAny l fun _ c => c.1 == f
/-- the oldest are dropped as long as no cursor stands there -/
def dropB (l : List Csr) : List (List Tbl) → Int → Hst
  | [], f => (f, [])
  | d :: ds, f => cond (ds.isEmpty || hitB l f) (f, d :: ds) (dropB l ds (IntKind.i64.wrap (f + 1)))
theorem s_hit {l : List Csr} (hl : l.length ≤ lim) (f : Int) (y : List (List Tbl)) : loopF (spec_DropUnusedSnapshots_B2 l f y) fz 0 = some (cond (hitB l f) (.inr (f, y)) (.inl ())) :=
  bad_loop (fun k => atB l k fun c => c.1 == f) (f, y) hl (fun k hk rec => by
    unfold spec_DropUnusedSnapshots_B2
    rw [lt_dec hk, geti_at hk, wrap_s hk (lim_max hl), atB_lt hk]
    rfl) (fun rec => by unfold spec_DropUnusedSnapshots_B2; rw [nlt_dec]; rfl)
theorem i_hit {l : List Csr} (hl : l.length ≤ lim) (f : Int) (y : List (List Tbl)) : loopF (impl_DropUnusedSnapshots_B2 l f y) fz 0 = some (cond (hitB l f) (.inr (f, y)) (.inl ())) :=
  bad_loop (fun k => atB l k fun c => c.1 == f) (f, y) hl (fun k hk rec => by
    unfold impl_DropUnusedSnapshots_B2
    rw [lt_dec hk, geti_at hk, wrap_s hk (lim_max hl), atB_lt hk]
    rfl) (fun rec => by unfold impl_DropUnusedSnapshots_B2; rw [nlt_dec]; rfl)
def duS {α : Type} : Sum α α → α
  | .inl x => x
  | .inr x => x
theorem s_drop {l : List Csr} (hl : l.length ≤ lim) : ∀ (ds : List (List Tbl)) (f : Int) (m : Nat), ds.length < m → ∃ o, loopF (spec_DropUnusedSnapshots_B1 l) m (f, ds) = some o ∧ duS o = dropB l ds f
  | [], f, m, hm => by
    obtain ⟨m, rfl⟩ : ∃ k, m = k + 1 := ⟨m - 1, by omega⟩
    exact ⟨.inl (f, []), by rw [loopF_succ, spec_DropUnusedSnapshots_B1]; rfl, rfl⟩
  | [d], f, m, hm => by
    obtain ⟨m, rfl⟩ : ∃ k, m = k + 1 := ⟨m - 1, by omega⟩
    exact ⟨.inl (f, [d]), by rw [loopF_succ, spec_DropUnusedSnapshots_B1]; rfl, rfl⟩
  | d :: e :: r, f, m, hm => by
    obtain ⟨m, rfl⟩ : ∃ k, m = k + 1 := ⟨m - 1, by omega⟩
    obtain ⟨o, h1, h2⟩ := s_drop hl (e :: r) (IntKind.i64.wrap (f + 1)) m (by simp only [List.length_cons] at hm ⊢; omega)
    rw [loopF_succ, spec_DropUnusedSnapshots_B1]
    rw [decide_eq_true (by simp only [List.length_cons]; omega : (1 : Int) < ((d :: e :: r).length : Int)), cond_true, s_hit hl]
    simp only [obind]
    rw [dropB]
    cases hh : hitB l f with
    | true => exact ⟨.inr (f, d :: e :: r), rfl, rfl⟩
    | false =>
      simp only [cond_false]
      rw [chk_pos (by simp only [List.length_cons]; omega), subl_tail]
      exact ⟨o, h1, h2⟩
theorem j_drop (d : List Tbl) (ds : List (List Tbl)) : okJ (d :: ds) (inlM (([] : List (Nat × List Tbl)) ++ subl (enumP 0 (d :: ds)) 1 (List.length (enumP 0 (d :: ds)) : Int))) [] = true ∧ List.map getM (inlM (([] : List (Nat × List Tbl)) ++ subl (enumP 0 (d :: ds)) 1 (List.length (enumP 0 (d :: ds)) : Int))) = ds := by
  have e : subl (enumP 0 (d :: ds)) 1 (List.length (enumP 0 (d :: ds)) : Int) = enumP 1 ds := subl_tail (0, d) (enumP 1 ds)
  rw [e, List.nil_append]
  refine ⟨okJ_of (fun p hp => ?_) ?_ (by simp), get_inl _ _⟩
  · have hp : p ∈ enumP 1 ds := by
      unfold inlM at hp
      obtain ⟨x, hx, he⟩ := List.mem_map.1 hp
      cases he; exact hx
    have := enumT_mem hp
    rw [show p.1 = (p.1 - 1) + 1 by omega, List.getElem?_cons_succ]
    exact this.2
  · rw [enumT_nums]; exact List.nodup_range'
theorem i_drop {l : List Csr} (hl : l.length ≤ lim) : ∀ (ds : List (List Tbl)) (f : Int) (m : Nat), ds.length ≤ lim → ds.length < m → ∃ o, loopF (impl_DropUnusedSnapshots_B1 l) m (f, ds) = some o ∧ duS o = dropB l ds f
  | [], f, m, _, hm => by
    obtain ⟨m, rfl⟩ : ∃ k, m = k + 1 := ⟨m - 1, by omega⟩
    exact ⟨.inl (f, []), by rw [loopF_succ, impl_DropUnusedSnapshots_B1]; rfl, rfl⟩
  | [d], f, m, _, hm => by
    obtain ⟨m, rfl⟩ : ∃ k, m = k + 1 := ⟨m - 1, by omega⟩
    exact ⟨.inl (f, [d]), by rw [loopF_succ, impl_DropUnusedSnapshots_B1]; rfl, rfl⟩
  | d :: e :: r, f, m, hd, hm => by
    obtain ⟨m, rfl⟩ : ∃ k, m = k + 1 := ⟨m - 1, by omega⟩
    obtain ⟨o, h1, h2⟩ := i_drop hl (e :: r) (IntKind.i64.wrap (f + 1)) m (by simp only [List.length_cons] at hd ⊢; omega) (by simp only [List.length_cons] at hm ⊢; omega)
    obtain ⟨j1, j2⟩ := j_drop d (e :: r)
    have hE : (enumP 0 (d :: e :: r)).length = (d :: e :: r).length := enumP_len 0 _
    have hS : (subl (enumP 0 (d :: e :: r)) 1 (List.length (enumP 0 (d :: e :: r)) : Int)).length ≤ lim := by
      rw [show subl (enumP 0 (d :: e :: r)) 1 (List.length (enumP 0 (d :: e :: r)) : Int) = enumP 1 (e :: r) from subl_tail (0, d) (enumP 1 (e :: r)), enumP_len]
      simp only [List.length_cons] at hd ⊢; omega
    rw [loopF_succ, impl_DropUnusedSnapshots_B1]
    rw [decide_eq_true (by simp only [List.length_cons]; omega : (1 : Int) < ((d :: e :: r).length : Int)), cond_true, i_hit hl]
    simp only [obind]
    rw [dropB]
    cases hh : hitB l f with
    | true => exact ⟨.inr (f, d :: e :: r), rfl, rfl⟩
    | false =>
      simp only [cond_false]
      rw [chk_pos (by rw [hE]; simp only [List.length_cons]; omega), chk_pos (by simp only [List.length_nil]; omega), chk_pos j1, j2]
      exact ⟨o, h1, h2⟩
def duB (h : Hst) (l : List Csr) : Hst := cond (histB h) (dropB l h.2 h.1) h
theorem s_du {h : Hst} {l : List Csr} (hs : smHist h) (hl : l.length ≤ lim) : spec_DropUnusedSnapshots h l = some (duB h l) := by
  unfold spec_DropUnusedSnapshots duB
  simp only [s_copyH hs, s_hist hs, obind]
  cases histB h with
  | false => rfl
  | true =>
    obtain ⟨o, e1, e2⟩ := s_drop hl h.2 h.1 fz (lt_fz hs.1)
    simp only [Bool.not_true, cond_false, cond_true, e1]
    cases o with
    | inl x => obtain ⟨x1, x2⟩ := x; exact congrArg some e2
    | inr x => exact congrArg some e2
theorem i_du {h : Hst} {l : List Csr} (hs : smHist h) (hl : l.length ≤ lim) : impl_DropUnusedSnapshots h l = some (duB h l) := by
  unfold impl_DropUnusedSnapshots duB
  simp only [i_copyH hs, i_hist hs, obind]
  cases histB h with
  | false => rfl
  | true =>
    obtain ⟨o, e1, e2⟩ := i_drop hl h.2 h.1 fz hs.1 (lt_fz hs.1)
    simp only [Bool.not_true, cond_false, cond_true, e1]
    cases o with
    | inl x => obtain ⟨x1, x2⟩ := x; exact congrArg some e2
    | inr x => exact congrArg some e2
end Go.Proofs.YtmjhiencoapldaaGreat
