/-
  TightDatabase: the reference and the program give the same, and how much. On the printed functions; conditions: lengths.
-/
import Derived.Test.YtmioifafgbjjhaaSrT1
import Derived.Test.YtmioifafgbjjhaaFrT1
-- pure
namespace Go.Proofs.Ytmioifafgbjjhaa
open Go.RowKit
set_option linter.unusedVariables false
set_option linter.unusedSimpArgs false
/-! ### names of what is stored -/
theorem put_any {d : List Tbl} {nm : List UInt8} {r : Int × List (List Int)} (h : dbB d = true) (x : List UInt8) : (setS d nm r).any (fun t => t.1 == x) = (d.any (fun t => t.1 == x) || (nm == x)) := by
  have hn : (nm, r) ∈ setS d nm r := by
    rw [put_same h]
    unfold putI
    cases hc : atB d (lowN d nm) fun t => t.1 == nm with
    | false => simp
    | true =>
      have hlt : lowN d nm < d.length := by
        rcases Nat.lt_or_ge (lowN d nm) d.length with h1 | h1
        · exact h1
        · unfold atB at hc; rw [List.getElem?_eq_none h1] at hc; cases hc
      exact List.mem_iff_getElem.2 ⟨lowN d nm, by simpa using hlt, by simp⟩
  have ho : ∀ t ∈ d, ∃ t' ∈ setS d nm r, t'.1 = t.1 := by
    intro t ht
    rw [put_same h] at hn ⊢
    unfold putI at hn ⊢
    cases hc : atB d (lowN d nm) fun t => t.1 == nm with
    | false =>
      rw [← List.take_append_drop (lowN d nm) d] at ht
      refine ⟨t, ?_, rfl⟩
      simp only [cond_false, List.mem_append, List.mem_singleton]
      rcases List.mem_append.1 ht with ht | ht
      · exact .inl (.inl ht)
      · exact .inr ht
    | true =>
      rw [hc] at hn
      obtain ⟨j, hj, rfl⟩ := List.mem_iff_getElem.1 ht
      by_cases e : j = lowN d nm
      · subst e
        rw [atB_lt hj] at hc
        exact ⟨_, hn, (eq_of_beq hc).symm⟩
      · refine ⟨d[j], List.mem_iff_getElem.2 ⟨j, by simpa using hj, ?_⟩, rfl⟩
        simp only [cond_true]
        rw [List.getElem_set_ne (Ne.symm e)]
  rw [Bool.eq_iff_iff, Bool.or_eq_true, List.any_eq_true, List.any_eq_true]
  constructor
  · rintro ⟨t, ht, e⟩
    rcases setS_mem t ht with h1 | rfl
    · exact .inl ⟨t, h1, e⟩
    · exact .inr e
  · rintro (⟨t, ht, e⟩ | e)
    · obtain ⟨t', h1, h2⟩ := ho t ht
      exact ⟨t', h1, by rw [h2]; exact e⟩
    · exact ⟨_, hn, e⟩
theorem look_any {d : List Tbl} (h : dbB d = true) (x : List UInt8) : (lookB d x).2 = d.any fun t => t.1 == x := by
  unfold lookB
  rw [if_pos h]
  cases hf : d.find? (fun t => t.1 == x) with
  | none =>
    have := List.find?_eq_none.1 hf
    symm
    rw [List.any_eq_false]
    exact this
  | some t =>
    symm
    rw [List.any_eq_true]
    exact ⟨t, List.mem_of_find?_eq_some hf, List.find?_some (p := fun t : Tbl => t.1 == x) hf⟩
/-- a valid database is small -/
theorem db_few {d : List Tbl} (h : dbB d = true) : d.length ≤ 6 ∧ ∀ t ∈ d, t.1.length ≤ 4 ∧ t.2.2.length ≤ 4000 ∧ ∀ r ∈ t.2.2, r.length ≤ 5 := by
  simp only [dbB, Bool.and_eq_true, decide_eq_true_eq, Bool.not_eq_true'] at h
  refine ⟨by omega, fun t ht => ?_⟩
  obtain ⟨k, hk, rfl⟩ := List.mem_iff_getElem.1 ht
  have hb := badAny_f h.2 hk
  simp only [tblBad, Bool.or_eq_false_iff, Bool.not_eq_false'] at hb
  obtain ⟨⟨⟨⟨h1, _⟩, h3⟩, _⟩, _⟩ := hb
  refine ⟨?_, ?_, ?_⟩
  · simp only [nmB, Bool.and_eq_true, btw, decide_eq_true_eq] at h1
    omega
  · simp only [relB, Bool.and_eq_true, Bool.not_eq_true', decide_eq_false_iff_not] at h3
    omega
  · simp only [relB, Bool.and_eq_true, Bool.not_eq_true', btw, decide_eq_true_eq] at h3
    intro r hr
    obtain ⟨j, hj, rfl⟩ := List.mem_iff_getElem.1 hr
    have h5 := badAny_f h3.2.2 hj
    simp only [rowBad, Bool.or_eq_false_iff, bne_eq_false_iff_eq] at h5
    omega
theorem db_smDb {d : List Tbl} (h : dbB d = true) : smDb d := by
  obtain ⟨h1, h2⟩ := db_few h
  refine ⟨by unfold lim; omega, fun t ht => ?_⟩
  obtain ⟨h3, h4, h5⟩ := h2 t ht
  exact ⟨by unfold lim; omega, by unfold lim; omega, fun r hr => by have := h5 r hr; unfold lim; omega⟩
/-! ### the loop over the atoms -/
def pvT (nums : List Int) (b v : Int) : Int := if 100 < pw b (atI nums v) then -1 else pw b (atI nums v)
def cnt (nums : List Int) (b : Int) (a : Atm) : List Int := a.2.map (pvT nums b)
def putT (nums : List Int) (b : Int) (d : List Tbl) (a : Atm) : List Tbl := (setB d a.1 (fullB (cnt nums b a)).1).1
def dbK (l : List Atm) (nums : List Int) (b : Int) (k : Nat) : List Tbl := (l.take k).foldl (putT nums b) []
theorem dbK_s {l : List Atm} {nums : List Int} {b : Int} {k : Nat} (hk : k < l.length) : dbK l nums b (k + 1) = putT nums b (dbK l nums b k) l[k] := by
  unfold dbK; rw [List.take_succ_eq_append_getElem hk, List.foldl_append]; rfl
def tBad (l : List Atm) (nums : List Int) (b : Int) (k : Nat) : Bool := atB l k fun a => !(fullB (cnt nums b a)).2 || ((lookB (dbK l nums b k) a.1).2 || !(setB (dbK l nums b k) a.1 (fullB (cnt nums b a)).1).2)
def tdB (q : Qry) (nums : List Int) (b : Int) : List Tbl × Bool := cond (tightOk q nums b) (cond ((List.range q.2.1.length).any (tBad q.2.1 nums b)) ([], false) (dbK q.2.1 nums b q.2.1.length, true)) ([], false)
section
variable {l : List Atm} {nums : List Int} {b : Int}
theorem dbK_ok (k : Nat) (hk : k ≤ l.length) (hb : ∀ j, j < k → tBad l nums b j = false) : dbB (dbK l nums b k) = true ∧ ∀ x, (dbK l nums b k).any (fun t => t.1 == x) = (l.take k).any fun a => a.1 == x := by
  induction k with
  | zero => exact ⟨rfl, fun x => rfl⟩
  | succ k ih =>
    obtain ⟨i1, i2⟩ := ih (by omega) (fun j hj => hb j (by omega))
    have h1 := hb k (by omega)
    unfold tBad at h1
    rw [atB_lt (by omega)] at h1
    simp only [Bool.or_eq_false_iff, Bool.not_eq_false'] at h1
    obtain ⟨e1, e2, e3⟩ := setB_ok h1.2.2
    rw [dbK_s (by omega)]
    refine ⟨e2, fun x => ?_⟩
    show (setB _ _ _).1.any _ = _
    rw [e3, put_any i1, i2, List.take_succ_eq_append_getElem (by omega), List.any_append]
    simp
/-- what the loops ask of an atom -/
structure AtOk (nums : List Int) (b : Int) (a : Atm) : Prop where
  len : a.2.length ≤ 5
  nm : a.1.length ≤ lim
  vars : ∀ v ∈ a.2, 0 ≤ v ∧ v < nums.length ∧ btw (atI nums v) 0 6 = true
theorem s_cnt {q : Qry} {y4 : Int} {a : Atm} (ha : geti q.2.1 y4 = some a) (ho : AtOk nums b a) (hb : btw b 1 10 = true) : loopF (spec_TightDatabase_B2 q nums b y4) fz ([], 0) = some (cnt nums b a) := by
  have := loop_to (body := spec_TightDatabase_B2 q nums b y4) (out := cnt nums b a) (fun k => ((a.2.take k).map (pvT nums b), (k : Int))) a.2.length (fun k hk rec => by
    obtain ⟨h1, h2, h3⟩ := ho.vars a.2[k] (List.getElem_mem hk)
    have := ho.len
    simp only [spec_TightDatabase_B2, ha, obind]
    rw [lt_dec hk]
    simp only [cond_true, geti_at hk, geti_ok ⟨h1, h2⟩]
    rw [s_pw hb h3]
    simp only
    rw [chk_pos (by unfold lim; simp; omega), List.take_succ_eq_append_getElem hk, List.map_append, wrap_in (by omega)]
    simp [pvT]) (fun rec => by
    simp only [spec_TightDatabase_B2, ha, obind, List.take_length]
    rw [nlt_dec]; rfl) fz (by have := ho.len; unfold fz; omega)
  simpa using this
theorem tOk_at {q : Qry} (h : smQ q) (ht : tightOk q nums b = true) : btw b 1 10 = true ∧ q.2.1.length ≤ 4 ∧ (∀ a ∈ q.2.1, AtOk nums b a) ∧ ∀ k, k < nums.length → usedB q.2.1 (k : Int) = true := by
  simp only [tightOk, Bool.and_eq_true, beq_iff_eq, qryB, Bool.not_eq_true'] at ht
  obtain ⟨t1, ⟨t2, t3, t4, t5, t6⟩, t7, t8⟩ := ht
  have t2' : 1 ≤ q.1 ∧ q.1 ≤ 5 := by simpa [btw] using t2
  refine ⟨t8, ?_, fun a ha => ?_, fun k hk => ?_⟩
  · simp only [btw, Bool.and_eq_true, decide_eq_true_eq] at t3; omega
  · obtain ⟨k, hk, rfl⟩ := List.mem_iff_getElem.1 ha
    have h1 := badAny_f t5 hk
    simp only [atomBad, Bool.or_eq_false_iff, Bool.not_eq_false'] at h1
    obtain ⟨_, h2, h3⟩ := h1
    simp only [btw, Bool.and_eq_true, decide_eq_true_eq] at h2
    refine ⟨by omega, (h.2.1 _ ha).1, fun v hv => ?_⟩
    obtain ⟨j, hj, rfl⟩ := List.mem_iff_getElem.1 hv
    have h4 := badAny_f h3 hj
    rw [wrap_in (by omega)] at h4
    simp only [btw, Bool.not_eq_false', Bool.and_eq_true, decide_eq_true_eq] at h4
    have h5 : 0 ≤ q.2.1[k].2[j] ∧ q.2.1[k].2[j] < nums.length := by omega
    refine ⟨h5.1, h5.2, ?_⟩
    have h6 : atI nums q.2.1[k].2[j] = nums[q.2.1[k].2[j].toNat]'(by omega) := by
      unfold atI geti
      rw [if_pos h5.1, List.getElem?_eq_getElem (by omega)]; rfl
    have h7 := badAny_f t1 (k := q.2.1[k].2[j].toNat) (by omega)
    rw [h6]
    simpa [numBad] using h7
  · have := List.any_eq_false.1 t6 k (List.mem_range.2 (by omega))
    simpa using this
theorem s_td {q : Qry} (h : smQ q) (hn : nums.length ≤ lim) : spec_TightDatabase q nums b = some (tdB q nums b) := by
  unfold spec_TightDatabase tdB
  rw [s_ok h hn]
  simp only [obind]
  cases ht : tightOk q nums b with
  | false => rfl
  | true =>
    obtain ⟨hb, hl, ha, _⟩ := tOk_at h ht
    simp only [Bool.not_true, cond_false, cond_true]
    have hL := all_stR (B := spec_TightDatabase_B1 q nums b) (n := q.2.1.length) (fun k => dbK q.2.1 nums b k) (tBad q.2.1 nums b) (([], false) : List Tbl × Bool) (by unfold lim; omega) (fun k hk hbad rec => by
      obtain ⟨i1, i2⟩ := dbK_ok k (Nat.le_of_lt hk) hbad
      have hak := ha _ (List.getElem_mem hk)
      have hsm := db_smDb i1
      have hfew := (db_few i1).1
      simp only [spec_TightDatabase_B1]
      rw [lt_dec hk, s_cnt (geti_at hk) hak hb]
      simp only [cond_true, obind]
      rw [s_full (by unfold cnt; rw [List.length_map]; have := hak.len; unfold lim; omega)]
      simp only [geti_at hk]
      rw [s_look hsm]
      simp only
      rw [s_setR hsm (by unfold lim; omega) hak.nm (full_sm _).1]
      simp only
      rw [dbK_s hk, wrap_in (by omega)]
      unfold tBad
      rw [atB_lt hk]
      show cond (!(fullB (cnt nums b q.2.1[k])).2) _ _ = _
      cases (fullB (cnt nums b q.2.1[k])).2 <;> cases (lookB (dbK q.2.1 nums b k) q.2.1[k].1).2 <;> cases (setB (dbK q.2.1 nums b k) q.2.1[k].1 (fullB (cnt nums b q.2.1[k])).1).2 <;> first | rfl | (simp [putT])) (fun rec => by simp only [spec_TightDatabase_B1]; rw [nlt_dec]; rfl)
    have hL' : loopF (spec_TightDatabase_B1 q nums b) fz ([], 0) = _ := hL
    rw [hL']
    cases (List.range q.2.1.length).any (tBad q.2.1 nums b) <;> rfl
theorem i_dup {q : Qry} {k : Nat} (hk : k < q.2.1.length) (hl : q.2.1.length ≤ 4) (a : Atm) : loopF (impl_TightDatabase_B2 q (k : Int) a) fz 0 = some (cond ((q.2.1.take k).any fun x => x.1 == a.1) (.inr ([], false)) (.inl ())) := by
  have hs : subl q.2.1 0 (k : Int) = q.2.1.take k := sub_take _ _
  have hlen : (q.2.1.take k).length = k := by rw [List.length_take]; omega
  have h1 := bad_loop (B := impl_TightDatabase_B2 q (k : Int) a) (n := (q.2.1.take k).length) (fun j => atB (q.2.1.take k) j fun x => x.1 == a.1) (([], false) : List Tbl × Bool) (by unfold lim; omega) (fun j hj rec => by
    unfold impl_TightDatabase_B2
    rw [hs, lt_dec hj, geti_at hj, wrap_in (by omega), atB_lt hj]
    simp only [cond_true, obind]
    have e : (a.1 == (q.2.1.take k)[j].1) = ((q.2.1.take k)[j].1 == a.1) := by rw [Bool.eq_iff_iff, beq_iff_eq, beq_iff_eq]; exact eq_comm
    rw [e]
    cases ((q.2.1.take k)[j].1 == a.1) <;> simp) (fun rec => by unfold impl_TightDatabase_B2; rw [hs, nlt_dec]; rfl)
  rw [h1]
  have e2 : ((List.range (q.2.1.take k).length).any fun j => atB (q.2.1.take k) j fun x => x.1 == a.1) = (q.2.1.take k).any fun x => x.1 == a.1 := by
    rw [Bool.eq_iff_iff, List.any_eq_true, List.any_eq_true]
    constructor
    · rintro ⟨j, hj, e⟩
      have hj := List.mem_range.1 hj
      rw [atB_lt hj] at e
      exact ⟨_, List.getElem_mem hj, e⟩
    · rintro ⟨x, hx, e⟩
      obtain ⟨j, hj, rfl⟩ := List.mem_iff_getElem.1 hx
      exact ⟨j, List.mem_range.2 hj, by rw [atB_lt hj]; exact e⟩
  rw [e2]
theorem i_td {q : Qry} (h : smQ q) (hn : nums.length ≤ lim) : impl_TightDatabase q nums b = some (tdB q nums b) := by
  unfold impl_TightDatabase tdB
  rw [i_powers h hn]
  simp only [obind]
  cases ht : tightOk q nums b with
  | false => rfl
  | true =>
    obtain ⟨hb, hl, ha, hu⟩ := tOk_at h ht
    simp only [Bool.true_and, cond_true]
    cases hbig : badAny nums (bigBad b) with
    | true =>
      -- a variable of a great number is used by an atom
      have : (List.range q.2.1.length).any (tBad q.2.1 nums b) = true := by
        unfold badAny at hbig
        obtain ⟨k, hk, he⟩ := List.any_eq_true.1 hbig
        have hk := List.mem_range.1 hk
        rw [atB_lt hk] at he
        have huk := hu k hk
        unfold usedB at huk
        obtain ⟨a, hm, hc⟩ := List.any_eq_true.1 huk
        obtain ⟨i, hi, rfl⟩ := List.mem_iff_getElem.1 hm
        obtain ⟨j, hj, hv⟩ := List.mem_iff_getElem.1 (List.contains_iff_mem.1 hc)
        rw [List.any_eq_true]
        refine ⟨i, List.mem_range.2 hi, ?_⟩
        have hcj : (cnt nums b q.2.1[i])[j]'(by unfold cnt; rw [List.length_map]; exact hj) = -1 := by
          have h6 : atI nums (k : Int) = nums[k] := by
            unfold atI
            rw [geti_at hk]; rfl
          simp only [cnt, List.getElem_map, hv, pvT, h6]
          have : (100 : Int) < pw b nums[k] := by simpa [bigBad] using he
          rw [if_pos this]
        have hf : (fullB (cnt nums b q.2.1[i])).2 = false := by
          unfold fullB
          have : (List.range (cnt nums b q.2.1[i]).length).any (fBad (cnt nums b q.2.1[i])) = true := by
            rw [List.any_eq_true]
            refine ⟨j, List.mem_range.2 (by unfold cnt; rw [List.length_map]; exact hj), ?_⟩
            unfold fBad
            rw [atB_lt (by unfold cnt; rw [List.length_map]; exact hj), hcj]
            rfl
          rw [this, Bool.or_true]; rfl
        unfold tBad
        rw [atB_lt hi, hf]; rfl
      rw [this]; rfl
    | false =>
      simp only [Bool.not_false, cond_true, Bool.not_true, cond_false]
      have hpick : ∀ a ∈ q.2.1, impl_pick (nums.map (pw b)) a.2 = some (cnt nums b a) := by
        intro a ham
        have hak := ha a ham
        rw [i_pick (by have := hak.len; unfold lim; omega) (fun c hc => by rw [List.length_map]; exact ⟨(hak.vars c hc).1, (hak.vars c hc).2.1⟩)]
        congr 1
        unfold pickB cnt
        apply List.map_congr_left
        intro v hv
        obtain ⟨h1, h2, h3⟩ := hak.vars v hv
        have e1 : atI (nums.map (pw b)) v = pw b (nums[v.toNat]'(by omega)) := by
          unfold atI geti
          rw [if_pos h1, List.getElem?_eq_getElem (by rw [List.length_map]; omega)]; simp
        have e2 : atI nums v = nums[v.toNat]'(by omega) := by
          unfold atI geti
          rw [if_pos h1, List.getElem?_eq_getElem (by omega)]; rfl
        have h7 := badAny_f hbig (k := v.toNat) (by omega)
        unfold bigBad at h7
        unfold pvT
        rw [e1, e2, if_neg (of_decide_eq_false h7)]
      have hL := all_stR (B := impl_TightDatabase_B1 q (nums.map (pw b), true)) (n := q.2.1.length) (fun k => dbK q.2.1 nums b k) (tBad q.2.1 nums b) (([], false) : List Tbl × Bool) (by unfold lim; omega) (fun k hk hbad rec => by
        obtain ⟨i1, i2⟩ := dbK_ok k (Nat.le_of_lt hk) hbad
        have hak := ha _ (List.getElem_mem hk)
        have hsm := db_smDb i1
        have hfew := (db_few i1).1
        simp only [impl_TightDatabase_B1]
        rw [lt_dec hk, geti_at hk]
        simp only [cond_true, obind]
        rw [chk_pos (by omega), i_dup hk hl]
        rw [dbK_s hk]
        unfold tBad
        rw [atB_lt hk, look_any i1, i2]
        cases hd : (q.2.1.take k).any fun x => x.1 == q.2.1[k].1 with
        | true =>
          simp only [cond_true, obind]
          cases (fullB (cnt nums b q.2.1[k])).2 <;> rfl
        | false =>
          simp only [cond_false, obind]
          rw [hpick _ (List.getElem_mem hk)]
          simp only
          rw [i_full (by unfold cnt; rw [List.length_map]; have := hak.len; unfold lim; omega)]
          simp only
          rw [i_setR hsm (by unfold lim; omega) hak.nm (full_sm _).1]
          simp only
          rw [wrap_in (by omega)]
          show cond (!(fullB (cnt nums b q.2.1[k])).2) _ _ = _
          cases (fullB (cnt nums b q.2.1[k])).2 <;> cases (setB (dbK q.2.1 nums b k) q.2.1[k].1 (fullB (cnt nums b q.2.1[k])).1).2 <;> first | rfl | (simp [putT])) (fun rec => by simp only [impl_TightDatabase_B1]; rw [nlt_dec]; rfl)
      have hL' : loopF (impl_TightDatabase_B1 q (nums.map (pw b), true)) fz ([], 0) = _ := hL
      rw [hL']
      cases (List.range q.2.1.length).any (tBad q.2.1 nums b) <;> rfl
theorem td_ok {q : Qry} (h : smQ q) : dbB (tdB q nums b).1 = true := by
  unfold tdB
  cases tightOk q nums b with
  | false => rfl
  | true =>
    simp only [cond_true]
    cases hany : (List.range q.2.1.length).any (tBad q.2.1 nums b) with
    | true => rfl
    | false =>
      exact (dbK_ok _ (Nat.le_refl _) (fun j hj => by
        have := List.any_eq_false.1 hany j (List.mem_range.2 hj)
        simpa using this)).1
end
end Go.Proofs.Ytmioifafgbjjhaa
