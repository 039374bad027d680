/-
  Snapshots and cursors: what the reference and the program give. On the printed functions; conditions: sizes.
-/
import Derived.Test.YtmjhiencoapldaaGreatLjDS1
import Derived.Test.YtmjhiencoapldaaGreatDuDS1
import Derived.Test.YtmjhiencoapldaaGreatEnDS1
-- pure
namespace Go.Proofs.YtmjhiencoapldaaGreat
open Go.RowKit
set_option linter.unusedVariables false
set_option linter.unusedSimpArgs false
theorem sameL_self {α : Type} {f : α → α → Bool} (hf : ∀ x, f x x = true) (l : List α) : sameL f l l = true := by
  unfold sameL
  rw [bad_none (fun i hi => by rw [atB_lt hi, hf]; rfl)]
  simp
theorem relEq_self (r : Int × List (List Int)) : relEq r r = true := by
  unfold relEq rowsEq
  rw [sameL_self (fun x => by simp)]
  simp
theorem dbEq_self (d : List Tbl) : dbEq d d = true := by
  unfold dbEq
  exact sameL_self (fun t => by rw [relEq_self]; simp) d
theorem s_histEq {h : Hst} (hs : smHist h) : spec_EqualHistories h h = some true := by
  unfold spec_EqualHistories
  have e1 : (h.1 != h.1) = false := by simp
  have e2 : ((h.2.length : Int) != (h.2.length : Int)) = false := by simp
  rw [e1, e2]
  simp only [cond_false]
  have := loop_to (body := spec_EqualHistories_B1 h h) (out := (.inl () : Sum Unit Bool)) (fun k => (k : Int)) h.2.length (fun k hk rec => by
    unfold spec_EqualHistories_B1
    rw [lt_dec hk, geti_at hk, wrap_s hk (lim_max hs.1)]
    simp only [cond_true, obind]
    rw [s_dbEq (hs.2 _ (List.getElem_mem hk)), dbEq_self]; rfl) (fun rec => by unfold spec_EqualHistories_B1; rw [nlt_dec]; rfl) fz (lt_fz hs.1)
  have h2 : loopF (spec_EqualHistories_B1 h h) fz 0 = some (.inl ()) := this
  rw [h2]; rfl
/-- what a history that holds says -/
theorem hist_in {h : Hst} (hv : histB h = true) : 1 ≤ h.1 ∧ h.1 ≤ 100 - (h.2.length : Int) := by
  have hf := hist_facts hv
  unfold histB btw at hv
  simp only [Bool.and_eq_true, Bool.not_eq_true', decide_eq_true_eq] at hv
  have := hv.2.2
  rw [wrap_in (n := 99 - (h.2.length : Int)) (by omega), wrap_in (by omega)] at this
  omega
theorem hist_of {h : Hst} (h1 : 1 ≤ h.2.length) (h2 : h.2.length ≤ 6) (h3 : ∀ d ∈ h.2, dbB d = true) (h4 : 1 ≤ h.1) (h5 : h.1 ≤ 100 - (h.2.length : Int)) : histB h = true := by
  unfold histB btw
  rw [bad_none (fun i hi => by rw [h3 _ (List.getElem_mem hi)]; rfl), wrap_in (n := 99 - (h.2.length : Int)) (by omega), wrap_in (by omega)]
  simp only [Bool.not_false, Bool.true_and, Bool.and_eq_true, decide_eq_true_eq]
  omega
/-- the snapshot of a version -/
def snB (h : Hst) (v : Int) : List Tbl × Bool := cond (histB h && btw v h.1 (h.1 + (h.2.length : Int) - 1)) ((h.2[(v - h.1).toNat]?).getD [], true) ([], false)
theorem sn_both {h : Hst} (hs : smHist h) (v : Int) : spec_SnapshotAt h v = some (snB h v) ∧ impl_SnapshotAt h v = some (snB h v) := by
  unfold spec_SnapshotAt impl_SnapshotAt snB
  simp only [s_hist hs, i_hist hs, obind, s_l1In, i_within]
  cases hv : histB h with
  | false => exact ⟨rfl, rfl⟩
  | true =>
    have hf := hist_facts hv
    have hi := hist_in hv
    rw [wrap_in (n := h.1 + (h.2.length : Int)) (by omega), wrap_in (n := h.1 + (h.2.length : Int) - 1) (by omega)]
    simp only [Bool.not_true, cond_false, Bool.true_and]
    cases hb : btw v h.1 (h.1 + (h.2.length : Int) - 1) with
    | false => exact ⟨rfl, rfl⟩
    | true =>
      unfold btw at hb
      rw [Bool.and_eq_true, decide_eq_true_eq, decide_eq_true_eq] at hb
      have hk : (v - h.1).toNat < h.2.length := by omega
      have hm := hs.2 _ (List.getElem_mem hk)
      have hg : geti h.2 (IntKind.i64.wrap (v - h.1)) = some h.2[(v - h.1).toNat] := by
        rw [wrap_in (by omega)]
        conv => lhs; rw [show v - h.1 = (((v - h.1).toNat : Nat) : Int) by omega]
        exact geti_at hk
      simp only [Bool.not_true, cond_false, cond_true, hg, s_copyD hm, i_copyD hm, List.getElem?_eq_getElem hk, Option.getD_some]
      exact ⟨trivial, trivial⟩
theorem sn_sm {h : Hst} (hs : smHist h) (v : Int) : smDb (snB h v).1 := by
  unfold snB
  cases (histB h && btw v h.1 (h.1 + (h.2.length : Int) - 1)) with
  | false => exact ⟨Nat.zero_le _, fun t ht => (by cases ht)⟩
  | true =>
    show smDb ((h.2[(v - h.1).toNat]?).getD [])
    rcases Nat.lt_or_ge (v - h.1).toNat h.2.length with hk | hk
    · rw [List.getElem?_eq_getElem hk]; exact hs.2 _ (List.getElem_mem hk)
    · rw [List.getElem?_eq_none hk]; exact ⟨Nat.zero_le _, fun t ht => (by cases ht)⟩
/-! ### cursors -/
def smC (c : Csr) : Prop := c.2.1.length ≤ lim ∧ c.2.2.1.length ≤ lim ∧ smQ c.2.2.2
def cadB (h : Hst) (c : Csr) : Csr × List Int × Bool := cond (snB h c.1).2 (cond (njB (snB h c.1).1 c.2.2.2 c.2.1 c.2.2.1).2 ((c.1, c.2.1, (njB (snB h c.1).1 c.2.2.2 c.2.1 c.2.2.1).1, c.2.2.2), (njB (snB h c.1).1 c.2.2.2 c.2.1 c.2.2.1).1, true) (c, [], false)) (c, [], false)
theorem s_csr {c : Csr} (hc : smC c) : spec_l33Cursor c = some c := by
  unfold spec_l33Cursor
  obtain ⟨h1, h2, h3⟩ := hc
  rw [chk_pos (by simp only [List.length_nil]; omega), chk_pos (by simp only [List.length_nil]; omega), s_copyQ h3]
  rfl
theorem s_adv {h : Hst} {c : Csr} (hs : smHist h) (hc : smC c) : spec_AdvanceCursor h c = some (cadB h c) := by
  unfold spec_AdvanceCursor cadB
  rw [s_csr hc, (sn_both hs c.1).1]
  simp only [obind]
  cases hv : (snB h c.1).2 with
  | false => rfl
  | true =>
    simp only [Bool.not_true, cond_false, cond_true]
    rw [s_nj (sn_sm hs c.1) hc.2.2 hc.1 c.2.2.1]
    simp only
    cases (njB (snB h c.1).1 c.2.2.2 c.2.1 c.2.2.1).2 with
    | false => rfl
    | true =>
      simp only [Bool.not_true, cond_false, cond_true, List.nil_append]
      rw [chk_pos (by have := nj_sm (d := (snB h c.1).1) (o := c.2.1) hc.2.2 c.2.2.1; simp only [List.length_nil]; omega)]
theorem ad_sm {h : Hst} {c : Csr} (hc : smC c) : smC (cadB h c).1 := by
  unfold cadB
  cases (snB h c.1).2 with
  | false => exact hc
  | true =>
    simp only [cond_true]
    cases (njB (snB h c.1).1 c.2.2.2 c.2.1 c.2.2.1).2 with
    | false => exact hc
    | true => exact ⟨hc.1, nj_sm hc.2.2 _, hc.2.2⟩
/-- a new cursor -/
def ocB (h : Hst) (q : Qry) (o : List Int) : Csr × Bool := cond (histB h && (qforB (snB h (h.1 + (h.2.length : Int) - 1)).1 q && ordB q o)) ((h.1 + (h.2.length : Int) - 1, o, [], q), true) ((0, [], [], (0, [], [])), false)
theorem sn_last {h : Hst} (hv : histB h = true) : ∃ d, geti h.2 (IntKind.i64.wrap ((h.2.length : Int) - 1)) = some d ∧ snB h (h.1 + (h.2.length : Int) - 1) = (d, true) ∧ d ∈ h.2 := by
  have hf := hist_facts hv
  obtain ⟨d, g1, g2, g3⟩ := last_get hf.1 hf.2.1
  refine ⟨d, g1, ?_, g3⟩
  unfold snB btw
  rw [hv, decide_eq_true (by omega), decide_eq_true (by omega)]
  have hk : (h.1 + (h.2.length : Int) - 1 - h.1).toNat = h.2.length - 1 := by omega
  rw [hk, ← List.getLast?_eq_getElem?, g2]
  rfl
theorem s_oc {h : Hst} {q : Qry} {o : List Int} (hs : smHist h) (hq : smQ q) (ho : o.length ≤ lim) : spec_OpenCursor h q o = some (ocB h q o) := by
  unfold spec_OpenCursor ocB
  simp only [s_hist hs, obind]
  cases hv : histB h with
  | false => rfl
  | true =>
    have hf := hist_facts hv
    have hi := hist_in hv
    obtain ⟨d, g1, g2, g3⟩ := sn_last hv
    simp only [Bool.not_true, cond_false, g1, g2, s_qfor (hs.2 d g3) hq, Bool.true_and]
    cases qforB d q with
    | false => rfl
    | true =>
      simp only [Bool.not_true, cond_false, s_order hq ho, Bool.true_and]
      cases ordB q o with
      | false => rfl
      | true =>
        simp only [Bool.not_true, cond_false, cond_true, List.nil_append]
        rw [chk_pos (by simp only [List.length_nil]; omega), s_copyQ hq, wrap_in (n := h.1 + (h.2.length : Int)) (by omega), wrap_in (by omega)]
theorem i_oc {h : Hst} {q : Qry} {o : List Int} (hs : smHist h) (hq : smQ q) (ho : o.length ≤ lim) : impl_OpenCursor h q o = some (ocB h q o) := by
  unfold impl_OpenCursor ocB
  rw [(sn_both hs _).2]
  simp only [obind]
  cases hv : histB h with
  | false =>
    have : (snB h (IntKind.i64.wrap (IntKind.i64.wrap (h.1 + (h.2.length : Int)) - 1))).2 = false := by unfold snB; rw [hv]; rfl
    rw [this]; rfl
  | true =>
    have hf := hist_facts hv
    have hi := hist_in hv
    obtain ⟨d, g1, g2, g3⟩ := sn_last hv
    rw [wrap_in (n := h.1 + (h.2.length : Int)) (by omega), wrap_in (n := h.1 + (h.2.length : Int) - 1) (by omega), g2]
    simp only [Bool.not_true, cond_false, i_qfor (hs.2 d g3) hq, Bool.true_and]
    cases qforB d q with
    | false => rfl
    | true =>
      simp only [Bool.not_true, cond_false, i_order hq ho, Bool.true_and]
      cases ordB q o with
      | false => rfl
      | true => simp only [Bool.not_true, cond_false, cond_true, i_copyI ho, i_copyQ hq]
theorem oc_sm {h : Hst} {q : Qry} {o : List Int} (hq : smQ q) (ho : o.length ≤ lim) : smC (ocB h q o).1 := by
  unfold ocB
  cases (histB h && (qforB (snB h (h.1 + (h.2.length : Int) - 1)).1 q && ordB q o)) with
  | false => exact ⟨Nat.zero_le _, Nat.zero_le _, Nat.zero_le _, fun a ha => (by cases ha), Nat.zero_le _⟩
  | true => exact ⟨ho, Nat.zero_le _, hq⟩
/-! ### dropping -/
theorem drop_is {l : List Csr} : ∀ (ds : List (List Tbl)) (f : Int), 0 ≤ f → f + (ds.length : Int) ≤ 1000000 → ∃ k : Nat, dropB l ds f = (f + (k : Int), ds.drop k) ∧ (0 < ds.length → k < ds.length) ∧ (ds.length = 0 → k = 0) ∧ ∀ j : Nat, j < k → hitB l (f + (j : Int)) = false
  | [], f, _, _ => ⟨0, by simp [dropB], fun h => absurd h (by simp), fun _ => rfl, fun j hj => absurd hj (by omega)⟩
  | d :: ds, f, h0, h1 => by
    rw [List.length_cons] at h1
    rw [dropB]
    cases hc : ds.isEmpty || hitB l f with
    | true => exact ⟨0, by simp, fun _ => by simp, fun h => by simp at h, fun j hj => absurd hj (by omega)⟩
    | false =>
      rw [Bool.or_eq_false_iff] at hc
      have hne : 0 < ds.length := by
        cases ds with
        | nil => simp at hc
        | cons e r => simp
      obtain ⟨k, e, i1, i2, i3⟩ := drop_is (l := l) ds (f + 1) (by omega) (by omega)
      rw [cond_false, wrap_in (by omega), e]
      refine ⟨k + 1, by rw [List.drop_succ_cons]; congr 1; omega, fun _ => by have := i1 hne; rw [List.length_cons]; omega, fun h => by simp at h, fun j hj => ?_⟩
      cases j with
      | zero => simpa using hc.2
      | succ j =>
        have := i3 j (by omega)
        rw [show f + ((j + 1 : Nat) : Int) = f + 1 + (j : Int) by omega]
        exact this
/-- the history that is left, and its snapshots -/
theorem du_facts {h : Hst} {l : List Csr} (hv : histB h = true) : histB (duB h l) = true ∧ 1 ≤ (duB h l).2.length ∧ (duB h l).1 + ((duB h l).2.length : Int) = h.1 + (h.2.length : Int) ∧ ∀ c ∈ l, snB (duB h l) c.1 = snB h c.1 := by
  have hf := hist_facts hv
  have hi := hist_in hv
  obtain ⟨k, e, k1, _, k3⟩ := drop_is (l := l) h.2 h.1 (by omega) (by omega)
  have hk := k1 (by omega)
  have eg : duB h l = (h.1 + (k : Int), h.2.drop k) := by unfold duB; rw [hv]; exact e
  have hG : histB (duB h l) = true := by
    rw [eg]
    refine hist_of ?_ ?_ (fun d hd => hf.2.2 d (List.mem_of_mem_drop hd)) ?_ ?_
    · simp only [List.length_drop]; omega
    · simp only [List.length_drop]; omega
    · simp only; omega
    · simp only [List.length_drop]; omega
  refine ⟨hG, by rw [eg]; simp only [List.length_drop]; omega, by rw [eg]; simp only [List.length_drop]; omega, fun c hc => ?_⟩
  unfold snB
  rw [hG, hv, eg]
  simp only [Bool.true_and, List.length_drop]
  have hne : ∀ j, j < k → c.1 ≠ h.1 + (j : Int) := fun j hj he => by
    have h1 := k3 j hj
    unfold hitB at h1
    obtain ⟨i, hi', rfl⟩ := List.mem_iff_getElem.1 hc
    have := badAny_f h1 hi'
    rw [he] at this
    simp at this
  have hb : btw c.1 (h.1 + (k : Int)) (h.1 + (k : Int) + ((h.2.length - k : Nat) : Int) - 1) = btw c.1 h.1 (h.1 + (h.2.length : Int) - 1) := by
    unfold btw
    rw [Bool.eq_iff_iff, Bool.and_eq_true, Bool.and_eq_true, decide_eq_true_eq, decide_eq_true_eq, decide_eq_true_eq, decide_eq_true_eq]
    constructor
    · rintro ⟨h1, h2⟩; omega
    · rintro ⟨h1, h2⟩
      have : ¬ c.1 < h.1 + (k : Int) := fun h3 => by
        have := hne (c.1 - h.1).toNat (by omega)
        omega
      omega
  rw [hb]
  cases hbb : btw c.1 h.1 (h.1 + (h.2.length : Int) - 1) with
  | false => rfl
  | true =>
    have hb2 := hb
    rw [hbb] at hb2
    unfold btw at hb2
    rw [Bool.and_eq_true, decide_eq_true_eq, decide_eq_true_eq] at hb2
    simp only [cond_true, List.getElem?_drop]
    rw [show k + (c.1 - (h.1 + (k : Int))).toNat = (c.1 - h.1).toNat by omega]
theorem du_sm {h : Hst} {l : List Csr} (hs : smHist h) : smHist (duB h l) := by
  unfold duB
  cases histB h with
  | false => exact hs
  | true =>
    have key : ∀ (ds : List (List Tbl)) (f : Int), (dropB l ds f).2.length ≤ ds.length ∧ ∀ d ∈ (dropB l ds f).2, d ∈ ds := by
      intro ds
      induction ds with
      | nil => intro f; exact ⟨Nat.le_refl _, fun d h => h⟩
      | cons d ds ih =>
        intro f
        rw [dropB]
        cases ds.isEmpty || hitB l f with
        | true => exact ⟨Nat.le_refl _, fun d h => h⟩
        | false =>
          obtain ⟨h1, h2⟩ := ih (IntKind.i64.wrap (f + 1))
          exact ⟨by simp only [cond_false, List.length_cons]; omega, fun x hx => List.mem_cons_of_mem _ (h2 x hx)⟩
    obtain ⟨h1, h2⟩ := key h.2 h.1
    exact ⟨Nat.le_trans h1 hs.1, fun d hd => hs.2 d (h2 d hd)⟩
end Go.Proofs.YtmjhiencoapldaaGreat
