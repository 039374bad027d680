/-
  When a query is valid: the reference and the program agree. On the printed functions; conditions: lengths.
-/
import Derived.Test.YtkclaipnejgloaaDoorFhIC1
namespace Go.Proofs.YtkclaipnejgloaaDoor
open Go.RowKit
set_option linter.unusedSimpArgs false
/-- a loop with a state that looks for a bad element -/
theorem all_st {S : Type} {B : (S × Int → Option (Sum S Bool)) → S × Int → Option (Sum S Bool)} {n : Nat} (s : Nat → S) (bad : Nat → Bool) (hn : n ≤ lim) (h1 : ∀ k, k < n → ∀ rec, B rec (s k, (k : Int)) = cond (bad k) (some (.inr false)) (rec (s (k + 1), ((k + 1 : Nat) : Int)))) (h2 : ∀ rec, B rec (s n, (n : Int)) = some (.inl (s n))) :
    loopF B fz (s 0, 0) = some (cond ((List.range n).any bad) (.inr false) (.inl (s n))) := by
  have key : ∀ d k, k + d = n → (∀ j, j < k → bad j = false) → ∀ m, d < m → loopF B m (s k, (k : Int)) = some (cond ((List.range n).any bad) (.inr false) (.inl (s n))) := by
    intro d
    induction d with
    | zero =>
      intro k hk hb m hm
      cases m with
      | zero => omega
      | succ m =>
        have hkn : k = n := by omega
        have : (List.range n).any bad = false := by
          rw [List.any_eq_false]
          intro x hx
          rw [hb x (by have := List.mem_range.1 hx; omega)]; simp
        show B (loopF B m) (s k, (k : Int)) = _
        rw [hkn, h2, this]; rfl
    | succ d ih =>
      intro k hk hb m hm
      cases m with
      | zero => omega
      | succ m =>
        show B (loopF B m) (s k, (k : Int)) = _
        rw [h1 k (by omega)]
        cases hbk : bad k with
        | true =>
          have : (List.range n).any bad = true := by rw [List.any_eq_true]; exact ⟨k, List.mem_range.2 (by omega), hbk⟩
          rw [this]; rfl
        | false =>
          exact ih (k + 1) (by omega) (fun j hj => by
            rcases Nat.lt_or_ge j k with h | h
            · exact hb j h
            · rw [show j = k by omega]; exact hbk) m (by omega)
  have := key n 0 (by omega) (fun j hj => absurd hj (by omega)) fz (lt_fz hn)
  simpa using this
/-- the place of a number -/
def findI (l : List Int) (v : Int) : Option Nat := (List.range l.length).findSome? fun k => if (atB l k fun e => e == v) = true then some k else none
theorem findI_some (l : List Int) (v : Int) : (findI l v).isSome = l.contains v := by
  unfold findI
  rw [Bool.eq_iff_iff, List.findSome?_isSome_iff, List.contains_iff_mem]
  constructor
  · rintro ⟨k, hk, h⟩
    have hk := List.mem_range.1 hk
    split at h
    · rename_i he; rw [atB_lt hk] at he; have : l[k] = v := by simpa using he
      rw [← this]; exact List.getElem_mem hk
    · cases h
  · intro h
    obtain ⟨k, hk, rfl⟩ := List.mem_iff_getElem.1 h
    exact ⟨k, List.mem_range.2 hk, by rw [atB_lt hk]; simp⟩
def placeI (l : List Int) (v : Int) : Int := match findI l v with
  | some k => (k : Int)
  | none => -1
theorem place_has (l : List Int) (v : Int) : decide (0 ≤ placeI l v) = l.contains v := by
  rw [← findI_some]
  unfold placeI
  cases findI l v with
  | some k => simp
  | none => rfl
theorem s_find {l : List Int} (h : l.length ≤ lim) (v : Int) : spec_l7Find l v = some (placeI l v) := by
  unfold spec_l7Find placeI findI
  rw [some_loop (O := Int) (fun k => if (atB l k fun e => e == v) = true then some (k : Int) else none) h (fun k hk rec => by
    unfold spec_l7Find_B1
    rw [lt_dec hk, geti_at hk, wrap_s hk (lim_max h), atB_lt hk]
    simp only [cond_true, obind]
    cases (l[k] == v) <;> rfl) (fun rec => by unfold spec_l7Find_B1; rw [nlt_dec]; rfl)]
  have e : ((List.range l.length).findSome? fun k => if (atB l k fun e => e == v) = true then some (k : Int) else none) = ((List.range l.length).findSome? fun k => if (atB l k fun e => e == v) = true then some k else none).map (fun k : Nat => (k : Int)) := by
    rw [List.map_findSome?]
    congr 1
    funext k
    simp only [Function.comp]
    split <;> rfl
  rw [e]
  cases (List.range l.length).findSome? fun k => if (atB l k fun e => e == v) = true then some k else none <;> rfl
theorem i_find {l : List Int} (h : l.length ≤ lim) (v : Int) : impl_indexOf l v = some (placeI l v) := by
  unfold impl_indexOf placeI findI
  rw [some_loop (O := Int) (fun k => if (atB l k fun e => e == v) = true then some (k : Int) else none) h (fun k hk rec => by
    unfold impl_indexOf_B1
    rw [lt_dec hk, geti_at hk, wrap_s hk (lim_max h), atB_lt hk]
    simp only [cond_true, obind]
    cases (l[k] == v) <;> rfl) (fun rec => by unfold impl_indexOf_B1; rw [nlt_dec]; rfl)]
  have e : ((List.range l.length).findSome? fun k => if (atB l k fun e => e == v) = true then some (k : Int) else none) = ((List.range l.length).findSome? fun k => if (atB l k fun e => e == v) = true then some k else none).map (fun k : Nat => (k : Int)) := by
    rw [List.map_findSome?]
    congr 1
    funext k
    simp only [Function.comp]
    split <;> rfl
  rw [e]
  cases (List.range l.length).findSome? fun k => if (atB l k fun e => e == v) = true then some k else none <;> rfl
theorem i_has {l : List Int} (h : l.length ≤ lim) (v : Int) : impl_hasInt l v = some (l.contains v) := by
  unfold impl_hasInt
  simp only [i_find h, obind, place_has]
abbrev Atm := List UInt8 × List Int
abbrev Qry := Int × List Atm × List Int
theorem s_cv {a : Atm} (h : a.2.length ≤ lim) (v : Int) : spec_ContainsVariable a v = some (a.2.contains v) := by
  unfold spec_ContainsVariable
  rw [some_loop (O := Bool) (fun k => if (atB a.2 k fun e => e == v) = true then some true else none) h (fun k hk rec => by
    unfold spec_ContainsVariable_B1
    rw [lt_dec hk, geti_at hk, wrap_s hk (lim_max h), atB_lt hk]
    simp only [cond_true, obind]
    cases (a.2[k] == v) <;> rfl) (fun rec => by unfold spec_ContainsVariable_B1; rw [nlt_dec]; rfl)]
  rw [← findI_some]
  have e : ((List.range a.2.length).findSome? fun k => if (atB a.2 k fun e => e == v) = true then some true else none) = (findI a.2 v).map (fun _ => true) := by
    unfold findI
    rw [List.map_findSome?]
    congr 1
    funext k
    simp only [Function.comp]
    split <;> rfl
  rw [e]
  cases findI a.2 v <;> rfl
/-- a list of different numbers below n -/
def setBad (n : Int) (l : List Int) (k : Nat) (e : Int) : Bool := !btw e 0 (IntKind.i64.wrap (n - 1)) || (l.take k).contains e
theorem sub_take {α : Type} (l : List α) (k : Nat) : subl l 0 (k : Int) = l.take k := by simp [subl]
theorem i_set {l : List Int} (h : l.length ≤ lim) (n : Int) : impl_isSetOf l n = some (!badAny l (setBad n l)) := by
  unfold impl_isSetOf badAny
  rw [all_loop (fun k => atB l k (setBad n l k)) h (fun k hk rec => by
    unfold impl_isSetOf_B1
    rw [lt_dec hk, geti_at hk, wrap_s hk (lim_max h), atB_lt hk]
    simp only [cond_true, obind, i_within]
    rw [chk_pos (by omega), sub_take]
    simp only [i_has (l := l.take k) (by rw [List.length_take]; omega), setBad]
    cases btw l[k] 0 (IntKind.i64.wrap (n - 1)) <;> rfl) (fun rec => by unfold impl_isSetOf_B1; rw [nlt_dec]; rfl)]
  cases (List.range l.length).any fun k => atB l k (setBad n l k) <;> rfl
def atomBad (n : Int) (a : Atm) : Bool := !nmB a.1 || (!btw (a.2.length : Int) 1 5 || badAny a.2 fun _ v => !btw v 0 (IntKind.i64.wrap (n - 1)))
def smQ (q : Qry) : Prop := q.2.1.length ≤ lim ∧ (∀ a ∈ q.2.1, a.1.length ≤ lim ∧ a.2.length ≤ lim) ∧ q.2.2.length ≤ lim
/-- some atom has the variable -/
def usedB (l : List Atm) (v : Int) : Bool := l.any fun a => a.2.contains v
theorem s_atoms {q : Qry} (h : smQ q) : loopF (spec_IsValidQuery_B1 q) fz 0 = some (cond (badAny q.2.1 fun _ a => atomBad q.1 a) (.inr false) (.inl ())) := by
  unfold badAny
  refine all_loop (fun k => atB q.2.1 k fun a => atomBad q.1 a) h.1 (fun k hk rec => ?_) (fun rec => by unfold spec_IsValidQuery_B1; rw [nlt_dec]; rfl)
  have ha := h.2.1 _ (List.getElem_mem hk)
  unfold spec_IsValidQuery_B1
  rw [lt_dec hk, geti_at hk, wrap_s hk (lim_max h.1), atB_lt hk]
  simp only [cond_true, obind, s_name ha.1, s_l1In, atomBad]
  cases nmB q.2.1[k].1 with
  | false => rfl
  | true =>
    cases btw (q.2.1[k].2.length : Int) 1 5 with
    | false => rfl
    | true =>
      simp only [Bool.not_true, cond_false, Bool.false_or]
      rw [all_loop (fun j => atB q.2.1[k].2 j fun v => !btw v 0 (IntKind.i64.wrap (q.1 - 1))) ha.2 (fun j hj rec => by
        unfold spec_IsValidQuery_B2
        rw [geti_at hk]
        simp only [obind]
        rw [lt_dec hj, geti_at hj, wrap_s hj (lim_max ha.2), atB_lt hj]
        simp only [cond_true, s_l1In]) (fun rec => by unfold spec_IsValidQuery_B2; rw [geti_at hk]; simp only [obind]; rw [nlt_dec]; rfl)]
      unfold badAny
      cases (List.range q.2.1[k].2.length).any fun j => atB q.2.1[k].2 j fun v => !btw v 0 (IntKind.i64.wrap (q.1 - 1)) <;> rfl
theorem s_used {q : Qry} (h : smQ q) (v : Int) : loopF (spec_IsValidQuery_B4 q v) fz (false, 0) = some (usedB q.2.1 v) := by
  have := loop_to (body := spec_IsValidQuery_B4 q v) (out := usedB q.2.1 v) (fun k => (usedB (q.2.1.take k) v, (k : Int))) q.2.1.length (fun k hk rec => by
    have ha := h.2.1 _ (List.getElem_mem hk)
    unfold spec_IsValidQuery_B4 spec_IsValidQuery_J5
    simp only
    rw [lt_dec hk, geti_at hk, wrap_s hk (lim_max h.1)]
    simp only [cond_true, obind, s_cv ha.2]
    have e : usedB (q.2.1.take (k + 1)) v = (usedB (q.2.1.take k) v || q.2.1[k].2.contains v) := by
      unfold usedB
      rw [List.take_succ_eq_append_getElem hk, List.any_append]; simp
    rw [e]
    cases usedB (q.2.1.take k) v <;> rfl) (fun rec => by unfold spec_IsValidQuery_B4; simp only; rw [nlt_dec, List.take_length]; rfl) fz (lt_fz h.1)
  simpa [usedB] using this
theorem s_cover {q : Qry} (h : smQ q) (hn : 1 ≤ q.1 ∧ q.1 ≤ 5) : loopF (spec_IsValidQuery_B3 q) fz 0 = some (cond ((List.range q.1.toNat).any fun v => !usedB q.2.1 (v : Int)) (.inr false) (.inl ())) := by
  have e : q.1 = (q.1.toNat : Int) := by omega
  refine all_loop (fun v => !usedB q.2.1 (v : Int)) (by unfold lim; omega) (fun k hk rec => ?_) (fun rec => by
    unfold spec_IsValidQuery_B3
    rw [decide_eq_false (by omega : ¬ ((q.1.toNat : Nat) : Int) < q.1)]; rfl)
  unfold spec_IsValidQuery_B3
  rw [decide_eq_true (by omega : (k : Int) < q.1), s_used h, wrap_in (by omega)]
  simp only [cond_true, obind]
  rfl
theorem s_set {q : Qry} (h : smQ q) : loopF (spec_IsValidQuery_B6 q) fz 0 = some (cond (badAny q.2.2 (setBad q.1 q.2.2)) (.inr false) (.inl ())) := by
  unfold badAny
  refine all_loop (fun k => atB q.2.2 k (setBad q.1 q.2.2 k)) h.2.2 (fun k hk rec => ?_) (fun rec => by unfold spec_IsValidQuery_B6; rw [nlt_dec]; rfl)
  unfold spec_IsValidQuery_B6
  rw [lt_dec hk, geti_at hk, wrap_s hk (lim_max h.2.2), atB_lt hk]
  simp only [cond_true, obind, s_l1In]
  rw [chk_pos (by omega), sub_take]
  simp only [s_find (l := q.2.2.take k) (by rw [List.length_take]; have := h.2.2; omega), place_has, setBad]
  cases btw q.2.2[k] 0 (IntKind.i64.wrap (q.1 - 1)) <;> rfl
/-- a query -/
def qryB (q : Qry) : Bool := btw q.1 1 5 && (btw (q.2.1.length : Int) 1 4 && (!badAny q.2.2 (setBad q.1 q.2.2) && (!(badAny q.2.1 fun _ a => atomBad q.1 a) && !((List.range q.1.toNat).any fun v => !usedB q.2.1 (v : Int)))))
/-- different numbers below n are at most n -/
theorem few : ∀ (n : Nat) (l : List Int), l.Nodup → (∀ e ∈ l, 0 ≤ e ∧ e < (n : Int)) → l.length ≤ n
  | 0, l, _, h => by
    cases l with
    | nil => simp
    | cons e l => have := h e (by simp); omega
  | n + 1, l, hd, h => by
    have h1 := few n (l.erase (n : Int)) (hd.erase _) (fun e he => by
      have h2 := h e (List.mem_of_mem_erase he)
      have h3 : e ≠ (n : Int) := fun q => by subst q; exact (List.Nodup.not_mem_erase hd) he
      omega)
    have h2 := List.length_erase (a := (n : Int)) (l := l)
    split at h2 <;> omega
theorem set_few {n : Int} (hn : 1 ≤ n ∧ n ≤ 5) {l : List Int} (h : badAny l (setBad n l) = false) : (l.length : Int) ≤ n := by
  have hw : IntKind.i64.wrap (n - 1) = n - 1 := wrap_in (by omega)
  have hin : ∀ e ∈ l, 0 ≤ e ∧ e < (n.toNat : Int) := by
    intro e he
    obtain ⟨k, hk, rfl⟩ := List.mem_iff_getElem.1 he
    have := badAny_f h hk
    unfold setBad btw at this
    simp only [Bool.or_eq_false_iff, Bool.not_eq_false', Bool.and_eq_true, decide_eq_true_eq, hw] at this
    omega
  have hd : l.Nodup := by
    rw [List.nodup_iff_pairwise_ne, List.pairwise_iff_getElem]
    intro i j hi hj hij he
    have := badAny_f h hj
    unfold setBad at this
    simp only [Bool.or_eq_false_iff] at this
    have h2 := this.2
    have : (l.take j).contains l[j] = true := by
      rw [List.contains_iff_mem, List.mem_iff_getElem]
      exact ⟨i, by rw [List.length_take]; omega, by rw [List.getElem_take]; exact he⟩
    rw [this] at h2; cases h2
  have := few n.toNat l hd hin
  omega
theorem s_query {q : Qry} (h : smQ q) : spec_IsValidQuery q = some (qryB q) := by
  unfold spec_IsValidQuery qryB
  simp only [s_l1In, obind, s_atoms h, s_set h]
  cases hb : btw q.1 1 5 with
  | false => rfl
  | true =>
    have hn : 1 ≤ q.1 ∧ q.1 ≤ 5 := by unfold btw at hb; simpa using hb
    rw [s_cover h hn]
    cases btw (q.2.1.length : Int) 1 4 with
    | false => rfl
    | true =>
      by_cases hl : q.1 < (q.2.2.length : Int)
      · rw [decide_eq_true hl]
        have : badAny q.2.2 (setBad q.1 q.2.2) = true := by
          cases hs : badAny q.2.2 (setBad q.1 q.2.2) with
          | true => rfl
          | false => have := set_few hn hs; omega
        rw [this]; rfl
      · rw [decide_eq_false hl]
        cases badAny q.2.2 (setBad q.1 q.2.2) <;> cases (badAny q.2.1 fun _ a => atomBad q.1 a) <;> cases ((List.range q.1.toNat).any fun v => !usedB q.2.1 (v : Int)) <;> rfl
/-- which variables are used -/
def uL (m : Nat) (f : Nat → Bool) : List Bool := (List.range m).map f
theorem uL_len (m : Nat) (f : Nat → Bool) : (uL m f).length = m := by simp [uL]
theorem uL_set {m v : Nat} (f : Nat → Bool) : (uL m f).set v true = uL m (fun u => f u || u == v) := by
  apply List.ext_getElem
  · simp [uL]
  · intro i h1 h2
    rw [List.getElem_set]
    simp only [uL, List.getElem_map, List.getElem_range]
    split
    · rename_i e; subst e; simp
    · rename_i e
      have : (i == v) = false := by simp; omega
      rw [this]; simp
theorem i_atoms {q : Qry} (h : smQ q) (hn : 1 ≤ q.1 ∧ q.1 ≤ 5) : loopF (impl_IsValidQuery_B1 q) fz (List.replicate (Int.toNat q.1) false, 0) = some (cond (badAny q.2.1 fun _ a => atomBad q.1 a) (.inr false) (.inl (uL q.1.toNat fun v => usedB q.2.1 (v : Int)))) := by
  have hw : IntKind.i64.wrap (q.1 - 1) = q.1 - 1 := wrap_in (by omega)
  have h0 : List.replicate (Int.toNat q.1) false = uL q.1.toNat fun v => usedB (q.2.1.take 0) (v : Int) := by
    unfold uL usedB
    simp [List.map_const']
  rw [h0]
  unfold badAny
  have := all_st (B := impl_IsValidQuery_B1 q) (n := q.2.1.length) (fun k => uL q.1.toNat fun v => usedB (q.2.1.take k) (v : Int)) (fun k => atB q.2.1 k fun a => atomBad q.1 a) h.1 (fun k hk rec => by
    have ha := h.2.1 _ (List.getElem_mem hk)
    unfold impl_IsValidQuery_B1
    simp only
    rw [lt_dec hk, geti_at hk, wrap_s hk (lim_max h.1), atB_lt hk]
    simp only [cond_true, obind, i_name ha.1, i_within, atomBad]
    cases nmB q.2.1[k].1 with
    | false => rfl
    | true =>
      cases btw (q.2.1[k].2.length : Int) 1 5 with
      | false => rfl
      | true =>
        simp only [Bool.not_true, cond_false, Bool.false_or]
        have hin := all_st (B := impl_IsValidQuery_B2 q q.2.1[k]) (n := q.2.1[k].2.length) (fun j => uL q.1.toNat fun v => usedB (q.2.1.take k) (v : Int) || (q.2.1[k].2.take j).contains (v : Int)) (fun j => atB q.2.1[k].2 j fun v => !btw v 0 (IntKind.i64.wrap (q.1 - 1))) ha.2 (fun j hj rec => by
          unfold impl_IsValidQuery_B2
          simp only
          rw [lt_dec hj, geti_at hj, wrap_s hj (lim_max ha.2), atB_lt hj]
          simp only [cond_true, obind, i_within]
          cases hb : btw q.2.1[k].2[j] 0 (IntKind.i64.wrap (q.1 - 1)) with
          | false => rfl
          | true =>
            have hv : 0 ≤ q.2.1[k].2[j] ∧ q.2.1[k].2[j] ≤ q.1 - 1 := by rw [hw] at hb; unfold btw at hb; simpa using hb
            have hvn : q.2.1[k].2[j] = ((q.2.1[k].2[j].toNat : Nat) : Int) := by omega
            simp only [Bool.not_true, cond_false]
            rw [hvn, geti_at (by rw [uL_len]; omega)]
            simp only
            congr 2
            unfold seti
            rw [Int.toNat_natCast, uL_set _]
            congr 1
            funext u
            rw [List.take_succ_eq_append_getElem hj, List.contains_append, Bool.or_assoc]
            congr 1
            congr 1
            rw [hvn]
            simp only [List.contains_cons, List.contains_nil, Bool.or_false]
            rw [Bool.eq_iff_iff]
            simp
            omega) (fun rec => by unfold impl_IsValidQuery_B2; simp only; rw [nlt_dec]; rfl)
        have e0 : (uL q.1.toNat fun v => usedB (q.2.1.take k) (v : Int) || (q.2.1[k].2.take 0).contains (v : Int)) = uL q.1.toNat fun v => usedB (q.2.1.take k) (v : Int) := by
          unfold uL; simp
        have e1 : (uL q.1.toNat fun v => usedB (q.2.1.take k) (v : Int) || (q.2.1[k].2.take q.2.1[k].2.length).contains (v : Int)) = uL q.1.toNat fun v => usedB (q.2.1.take (k + 1)) (v : Int) := by
          congr 1
          funext v
          unfold usedB
          rw [List.take_length, List.take_succ_eq_append_getElem hk, List.any_append]; simp
        simp only [e0, e1] at hin
        rw [hin]
        unfold badAny
        cases (List.range q.2.1[k].2.length).any fun j => atB q.2.1[k].2 j fun v => !btw v 0 (IntKind.i64.wrap (q.1 - 1)) <;> rfl) (fun rec => by unfold impl_IsValidQuery_B1; simp only; rw [nlt_dec]; rfl)
  rw [List.take_length] at this
  exact this
theorem i_query {q : Qry} (h : smQ q) : impl_IsValidQuery q = some (qryB q) := by
  unfold impl_IsValidQuery qryB
  simp only [i_within, obind, i_set h.2.2]
  cases hb : btw q.1 1 5 with
  | false => rfl
  | true =>
    have hn : 1 ≤ q.1 ∧ q.1 ≤ 5 := by unfold btw at hb; simpa using hb
    cases btw (q.2.1.length : Int) 1 4 with
    | false => rfl
    | true =>
      cases badAny q.2.2 (setBad q.1 q.2.2) with
      | true => rfl
      | false =>
        simp only [Bool.not_true, Bool.not_false, cond_false, Bool.true_and]
        rw [chk_pos (by unfold lim; omega), i_atoms h hn]
        cases (badAny q.2.1 fun _ a => atomBad q.1 a) with
        | true => rfl
        | false =>
          simp only [cond_false, Bool.not_false, Bool.true_and]
          rw [all_loop (n := (uL q.1.toNat fun v => usedB q.2.1 (v : Int)).length) (fun k => !usedB q.2.1 (k : Int)) (by rw [uL_len]; unfold lim; omega) (fun k hk rec => by
            unfold impl_IsValidQuery_B3
            rw [lt_dec hk, geti_at hk, wrap_s hk (by rw [uL_len]; unfold maxLen; omega)]
            simp only [cond_true, obind, uL, List.getElem_map, List.getElem_range]) (fun rec => by unfold impl_IsValidQuery_B3; rw [nlt_dec]; rfl), uL_len]
          cases (List.range q.1.toNat).any fun v => !usedB q.2.1 (v : Int) <;> rfl
theorem badAny_mem {α : Type} {l : List α} {f : α → Bool} (h : badAny l (fun _ e => f e) = false) {a : α} (ha : a ∈ l) : f a = false := by
  obtain ⟨k, hk, rfl⟩ := List.mem_iff_getElem.1 ha
  exact badAny_f h hk
theorem qry_facts {q : Qry} (h : qryB q = true) : 1 ≤ q.1 ∧ q.1 ≤ 5 ∧ q.2.1.length ≤ 4 ∧ ∀ a ∈ q.2.1, 1 ≤ a.2.length ∧ a.2.length ≤ 5 ∧ ∀ v ∈ a.2, 0 ≤ v ∧ v < q.1 := by
  unfold qryB at h
  simp only [Bool.and_eq_true, Bool.not_eq_true'] at h
  obtain ⟨h1, h2, -, h4, -⟩ := h
  have e1 : 1 ≤ q.1 ∧ q.1 ≤ 5 := by unfold btw at h1; simpa using h1
  have e2 : 1 ≤ (q.2.1.length : Int) ∧ (q.2.1.length : Int) ≤ 4 := by unfold btw at h2; simpa using h2
  refine ⟨e1.1, e1.2, by omega, fun a ha => ?_⟩
  have h5 := badAny_mem h4 ha
  unfold atomBad at h5
  simp only [Bool.or_eq_false_iff, Bool.not_eq_false'] at h5
  have e3 : 1 ≤ (a.2.length : Int) ∧ (a.2.length : Int) ≤ 5 := by have := h5.2.1; unfold btw at this; simpa using this
  refine ⟨by omega, by omega, fun v hv => ?_⟩
  have h6 := badAny_mem h5.2.2 hv
  simp only [Bool.not_eq_false'] at h6
  rw [wrap_in (by omega)] at h6
  have : 0 ≤ v ∧ v ≤ q.1 - 1 := by unfold btw at h6; simpa using h6
  omega
end Go.Proofs.YtkclaipnejgloaaDoor
