/-
  DropUnusedSnapshots: the reference and the program give the same, and how much. No conditions.
-/
import Derived.Test.YtcoalfphehhadaaAsDU1
import Derived.Test.YtcoalfphehhadaaSrDU1
import Derived.Test.YtcoalfphehhadaaQuDU1
-- pure
namespace Go.Proofs.Ytcoalfphehhadaa
open Go.RowKit
set_option linter.unusedVariables false
set_option linter.unusedSimpArgs false
abbrev Csr := Int × List Int × List Int × Qry
def hitB (l : List Csr) (f : Int) : Bool := badAny l fun _ c => c.1 == f
/-- the oldest are dropped as long as no cursor stands there -/
def dropB (l : List Csr) : List (List Tbl) → Int → Hst
  | [], f => (f, [])
  | d :: ds, f => cond (ds.isEmpty || hitB l f) (f, d :: ds) (dropB l ds (IntKind.i64.wrap (f + 1)))
theorem s_hit {l : List Csr} (hl : l.length ≤ lim) (f : Int) (y : List (List Tbl)) : loopF (spec_DropUnusedSnapshots_B2 l f y) fz 0 = some (cond (hitB l f) (.inr (f, y)) (.inl ())) :=
  bad_loop (fun k => atB l k fun c => c.1 == f) (f, y) hl (fun k hk rec => by
    unfold spec_DropUnusedSnapshots_B2
    rw [lt_dec hk, geti_at hk, wrap_s hk (lim_max hl), atB_lt hk]
    rfl) (fun rec => by unfold spec_DropUnusedSnapshots_B2; rw [nlt_dec]; rfl)
theorem i_hit {l : List Csr} (hl : l.length ≤ lim) (f : Int) (y : List (List Tbl)) : loopF (impl_DropUnusedSnapshots_B2 l f y) fz 0 = some (cond (hitB l f) (.inr (f, y)) (.inl ())) :=
  bad_loop (fun k => atB l k fun c => c.1 == f) (f, y) hl (fun k hk rec => by
    unfold impl_DropUnusedSnapshots_B2
    rw [lt_dec hk, geti_at hk, wrap_s hk (lim_max hl), atB_lt hk]
    rfl) (fun rec => by unfold impl_DropUnusedSnapshots_B2; rw [nlt_dec]; rfl)
def outS {α : Type} : Sum α α → α
  | .inl x => x
  | .inr x => x
theorem s_drop {l : List Csr} (hl : l.length ≤ lim) : ∀ (ds : List (List Tbl)) (f : Int) (m : Nat), ds.length < m → ∃ o, loopF (spec_DropUnusedSnapshots_B1 l) m (f, ds) = some o ∧ outS o = dropB l ds f
  | [], f, m, hm => by
    obtain ⟨m, rfl⟩ : ∃ k, m = k + 1 := ⟨m - 1, by omega⟩
    exact ⟨.inl (f, []), by rw [loopF_succ, spec_DropUnusedSnapshots_B1]; rfl, rfl⟩
  | [d], f, m, hm => by
    obtain ⟨m, rfl⟩ : ∃ k, m = k + 1 := ⟨m - 1, by omega⟩
    exact ⟨.inl (f, [d]), by rw [loopF_succ, spec_DropUnusedSnapshots_B1]; rfl, rfl⟩
  | d :: e :: r, f, m, hm => by
    obtain ⟨m, rfl⟩ : ∃ k, m = k + 1 := ⟨m - 1, by omega⟩
    obtain ⟨o, h1, h2⟩ := s_drop hl (e :: r) (IntKind.i64.wrap (f + 1)) m (by simp only [List.length_cons] at hm ⊢; omega)
    rw [loopF_succ, spec_DropUnusedSnapshots_B1]
    rw [decide_eq_true (by simp only [List.length_cons]; omega : (1 : Int) < ((d :: e :: r).length : Int)), cond_true, s_hit hl]
    simp only [obind]
    rw [dropB]
    cases hh : hitB l f with
    | true => exact ⟨.inr (f, d :: e :: r), rfl, rfl⟩
    | false =>
      simp only [cond_false]
      rw [chk_pos (by simp only [List.length_cons]; omega), subl_tail]
      exact ⟨o, h1, h2⟩
theorem j_drop (d : List Tbl) (ds : List (List Tbl)) : okJ (d :: ds) (inlM (([] : List (Nat × List Tbl)) ++ subl (enumP 0 (d :: ds)) 1 (List.length (enumP 0 (d :: ds)) : Int))) [] = true ∧ List.map getM (inlM (([] : List (Nat × List Tbl)) ++ subl (enumP 0 (d :: ds)) 1 (List.length (enumP 0 (d :: ds)) : Int))) = ds := by
  have e : subl (enumP 0 (d :: ds)) 1 (List.length (enumP 0 (d :: ds)) : Int) = enumP 1 ds := subl_tail (0, d) (enumP 1 ds)
  rw [e, List.nil_append]
  refine ⟨okJ_of (fun p hp => ?_) ?_ (by simp), get_inl _ _⟩
  · have hp : p ∈ enumP 1 ds := by
      unfold inlM at hp
      obtain ⟨x, hx, he⟩ := List.mem_map.1 hp
      cases he; exact hx
    have := enumT_mem hp
    rw [show p.1 = (p.1 - 1) + 1 by omega, List.getElem?_cons_succ]
    exact this.2
  · rw [enumT_nums]; exact List.nodup_range'
theorem i_drop {l : List Csr} (hl : l.length ≤ lim) : ∀ (ds : List (List Tbl)) (f : Int) (m : Nat), ds.length ≤ lim → ds.length < m → ∃ o, loopF (impl_DropUnusedSnapshots_B1 l) m (f, ds) = some o ∧ outS o = dropB l ds f
  | [], f, m, _, hm => by
    obtain ⟨m, rfl⟩ : ∃ k, m = k + 1 := ⟨m - 1, by omega⟩
    exact ⟨.inl (f, []), by rw [loopF_succ, impl_DropUnusedSnapshots_B1]; rfl, rfl⟩
  | [d], f, m, _, hm => by
    obtain ⟨m, rfl⟩ : ∃ k, m = k + 1 := ⟨m - 1, by omega⟩
    exact ⟨.inl (f, [d]), by rw [loopF_succ, impl_DropUnusedSnapshots_B1]; rfl, rfl⟩
  | d :: e :: r, f, m, hd, hm => by
    obtain ⟨m, rfl⟩ : ∃ k, m = k + 1 := ⟨m - 1, by omega⟩
    obtain ⟨o, h1, h2⟩ := i_drop hl (e :: r) (IntKind.i64.wrap (f + 1)) m (by simp only [List.length_cons] at hd ⊢; omega) (by simp only [List.length_cons] at hm ⊢; omega)
    obtain ⟨j1, j2⟩ := j_drop d (e :: r)
    have hE : (enumP 0 (d :: e :: r)).length = (d :: e :: r).length := enumP_len 0 _
    have hS : (subl (enumP 0 (d :: e :: r)) 1 (List.length (enumP 0 (d :: e :: r)) : Int)).length ≤ lim := by
      rw [show subl (enumP 0 (d :: e :: r)) 1 (List.length (enumP 0 (d :: e :: r)) : Int) = enumP 1 (e :: r) from subl_tail (0, d) (enumP 1 (e :: r)), enumP_len]
      simp only [List.length_cons] at hd ⊢; omega
    rw [loopF_succ, impl_DropUnusedSnapshots_B1]
    rw [decide_eq_true (by simp only [List.length_cons]; omega : (1 : Int) < ((d :: e :: r).length : Int)), cond_true, i_hit hl]
    simp only [obind]
    rw [dropB]
    cases hh : hitB l f with
    | true => exact ⟨.inr (f, d :: e :: r), rfl, rfl⟩
    | false =>
      simp only [cond_false]
      rw [chk_pos (by rw [hE]; simp only [List.length_cons]; omega), chk_pos (by simp only [List.length_nil]; omega), chk_pos j1, j2]
      exact ⟨o, h1, h2⟩
theorem drop_sub {l : List Csr} : ∀ (ds : List (List Tbl)) (f : Int), (dropB l ds f).2.length ≤ ds.length ∧ (∀ d ∈ (dropB l ds f).2, d ∈ ds) ∧ tzL tz_Database (dropB l ds f).2 ≤ tzL tz_Database ds
  | [], f => ⟨Nat.le_refl _, fun d h => h, Nat.le_refl _⟩
  | d :: ds, f => by
    obtain ⟨h1, h2, h3⟩ := drop_sub (l := l) ds (IntKind.i64.wrap (f + 1))
    rw [dropB]
    cases ds.isEmpty || hitB l f with
    | true => exact ⟨Nat.le_refl _, fun d h => h, Nat.le_refl _⟩
    | false =>
      refine ⟨by simp only [cond_false, List.length_cons]; omega, fun x hx => List.mem_cons_of_mem _ (h2 x hx), ?_⟩
      show tzL tz_Database (dropB l ds _).2 ≤ tz_Database d + tzL tz_Database ds
      omega
def duB (h : Hst) (l : List Csr) : Hst := cond (histB h) (dropB l h.2 h.1) h
theorem s_du {h : Hst} {l : List Csr} (hs : smHist h) (hl : l.length ≤ lim) : spec_DropUnusedSnapshots h l = some (duB h l) := by
  unfold spec_DropUnusedSnapshots duB
  simp only [s_copyH hs, s_hist hs, obind]
  cases histB h with
  | false => rfl
  | true =>
    obtain ⟨o, e1, e2⟩ := s_drop hl h.2 h.1 fz (lt_fz hs.1)
    simp only [Bool.not_true, cond_false, cond_true, e1]
    cases o with
    | inl x => obtain ⟨x1, x2⟩ := x; exact congrArg some e2
    | inr x => exact congrArg some e2
theorem i_du {h : Hst} {l : List Csr} (hs : smHist h) (hl : l.length ≤ lim) : impl_DropUnusedSnapshots h l = some (duB h l) := by
  unfold impl_DropUnusedSnapshots duB
  simp only [i_copyH hs, i_hist hs, obind]
  cases histB h with
  | false => rfl
  | true =>
    obtain ⟨o, e1, e2⟩ := i_drop hl h.2 h.1 fz hs.1 (lt_fz hs.1)
    simp only [Bool.not_true, cond_false, cond_true, e1]
    cases o with
    | inl x => obtain ⟨x1, x2⟩ := x; exact congrArg some e2
    | inr x => exact congrArg some e2
theorem pure_DropUnusedSnapshots {h : Hst} {l : List Csr} (s0 : sm_History h) (s1 : sm_CursorS l) (k0 : ok47 h) (k1 : ok48 l) : ∃ r, spec_DropUnusedSnapshots h l = some r ∧ impl_DropUnusedSnapshots h l = some r ∧ sm_History r ∧ tz_History r ≤ tz_History h + 300000 := by
  refine ⟨_, s_du (sm_histA s0) (sm_lim s1.1), i_du (sm_histA s0) (sm_lim s1.1), ?_⟩
  unfold duB
  cases histB h with
  | false => exact ⟨s0, Nat.le_add_right _ _⟩
  | true =>
    obtain ⟨h1, h2, h3⟩ := drop_sub (l := l) h.2 h.1
    refine ⟨⟨Nat.le_trans h1 s0.1, fun d hd => s0.2 d (h2 d hd)⟩, ?_⟩
    show List.length (dropB l h.2 h.1).2 + tzL tz_Database (dropB l h.2 h.1).2 ≤ List.length h.2 + tzL tz_Database h.2 + 300000
    omega
end Go.Proofs.Ytcoalfphehhadaa
