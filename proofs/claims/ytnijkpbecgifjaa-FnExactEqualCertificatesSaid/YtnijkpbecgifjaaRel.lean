/-
  Contracts of the functions that copy, compare, mark and measure lists of lists of ints and relations. Conditions: the arguments read as such data (for the marks: they are memory that a call has made).
-/
import Derived.Test.YtnijkpbecgifjaaMake
namespace Go.Proofs.Ytnijkpbecgifjaa
open Go.RowKit

/-- how many values the rows hold -/
def tot2 (ll : List (List Int)) : Nat := (ll.map List.length).sum
/-- how many values the first j rows hold -/
def upto2 (ll : List (List Int)) (j : Nat) : Nat := tot2 (ll.take j)
/-- how many values the rows hold, the rows counted too -/
def bulk2 (ll : List (List Int)) : Nat := ll.length + tot2 ll
theorem upto2_zero (ll : List (List Int)) : upto2 ll 0 = 0 := by simp [upto2, tot2]
theorem upto2_all (ll : List (List Int)) : upto2 ll ll.length = tot2 ll := by simp [upto2]
theorem sum_take_succ (ll : List (List Int)) (j : Nat) (hj : j < ll.length) : upto2 ll (j + 1) = upto2 ll j + ll[j].length := by
  unfold upto2 tot2
  rw [map_take_succ _ hj]; simp
theorem sum_take_le (ll : List (List Int)) (j : Nat) : upto2 ll j ≤ tot2 ll := by
  unfold upto2 tot2
  have h : (ll.map List.length).sum = ((ll.take j).map List.length).sum + ((ll.drop j).map List.length).sum := by rw [← List.sum_append, ← List.map_append, List.take_append_drop]
  omega
theorem len_le_tot2 (ll : List (List Int)) {l : List Int} (h : l ∈ ll) : l.length ≤ tot2 ll := by
  obtain ⟨j, hj, rfl⟩ := List.mem_iff_getElem.1 h
  have h1 := sum_take_succ ll j hj
  have h2 := sum_take_le ll (j + 1)
  omega

theorem szS_no {k : Int} {n : Nat} (h : k < n) : szS k n = -1 := if_pos h
theorem szS_yes {k : Int} {n : Nat} (h : ¬ k < n) : szS k n = k - n := if_neg h

set_option maxHeartbeats 400000 in
theorem szIntSS_c (va : Value) (a : List (List Int)) (k : Int) (w : World) (ha : Rows2 w va a) (h0 : 0 ≤ k) (h1 : k ≤ 1048576) :
    Calls Try.prog 47 #[va, .int .i64 k] w fun e w' => e = .returned (.int .i64 (szS k (bulk2 a))) ∧ w = w' := by
  obtain ⟨A, ca, rfl, hca, hat⟩ := ha.at_
  clear ha
  by_cases h : k < a.length
  · have h' : k - a.length < 0 := by omega
    have E := Lib.hid (szS_no (k := k) (n := bulk2 a) (by unfold bulk2; omega))
    go_enter Try.func47, Try.ntmps47
    go_wp2
    go_ret
    exact ⟨ret_int E.out.symm, rfl⟩
  · have h' : ¬ k - a.length < 0 := by omega
    have hd : decide (k - (a.length : Int) < 0) = false := by simpa using h'
    go_enter Try.func47, Try.ntmps47
    go_wp2
    go_loop [1, 5] (fun q i => ∃ j : Nat, j ≤ a.length ∧ i = .int .i64 j ∧ ∃ r : Int, q = .int .i64 r ∧ 0 ≤ r ∧ r ≤ 1048576 ∧ r + a.length + upto2 a j = k) (fun _ i => a.length - (intOf i).toNat)
    case atStart => exact ⟨0, by omega, rfl, _, rfl, by omega, by omega, by rw [upto2_zero]; omega⟩
    case round =>
      obtain ⟨j, hj, rfl, r, rfl, hr0, hr1, hr⟩ := hrel
      have HR := Lib.hid hr; clear hr
      by_cases hlt : j < a.length
      · obtain ⟨b, off, rfl, hcell⟩ := hat (by omega)
        obtain ⟨A', c', g1, g2⟩ := hcell j hlt
        have G2 := Lib.hid g2; clear g2 hcell
        by_cases hs : r < a[j].length
        · have H1 := Lib.hid (szS_no hs)
          go_wp2_with fail
          refine (szIntS_c _ _ _ _ G2.out hr0 hr1).mono ?_
          rintro e w' ⟨rfl, rfl⟩
          rw [H1.out]
          have E := Lib.hid (szS_no (k := k) (n := bulk2 a) (by have h3 := HR.out; have h4 := sum_take_succ a j hlt; have h5 := sum_take_le a (j + 1); unfold bulk2; omega))
          go_wp2
          go_ret
          exact ⟨ret_int E.out.symm, rfl⟩
        · have H1 := Lib.hid (szS_yes hs)
          go_wp2_with fail
          refine (szIntS_c _ _ _ _ G2.out hr0 hr1).mono ?_
          rintro e w' ⟨rfl, rfl⟩
          rw [H1.out]
          have hp : ¬ (r - (a[j].length : Int) < 0) := by omega
          go_wp2
          refine ⟨⟨j + 1, by omega, by go_num, _, rfl, by omega, by omega, ?_⟩, by simp [intOf]; omega⟩
          have h3 := HR.out
          have h4 := sum_take_succ a j hlt
          omega
      · go_wp2
        go_ret
        have e : j = a.length := by omega
        subst e
        refine ⟨ret_int ?_, rfl⟩
        have h3 := HR.out
        rw [upto2_all] at h3
        rw [szS_yes (by unfold bulk2; omega)]
        unfold bulk2
        omega

set_option maxHeartbeats 400000 in
theorem eqIntSS_c (va vb : Value) (a b : List (List Int)) (w : World) (ha : Rows2 w va a) (hb : Rows2 w vb b) :
    Calls Try.prog 36 #[va, vb] w fun e w' => e = .returned (.bool (a == b)) ∧ Same w w' := by
  obtain ⟨A, ca, rfl, hca, ha⟩ := ha.at_
  obtain ⟨B, cb, rfl, hcb, hb⟩ := hb.at_
  by_cases hlen : a.length = b.length
  · have hne : ((a.length : Int) != (b.length : Int)) = false := by simp [hlen]
    have hle : a.length ≤ b.length := by omega
    have HL := Lib.hid hlen; clear hlen
    go_enter Try.func36, Try.ntmps36
    go_wp2
    go_loopw [5] (fun i wr => ∃ k : Nat, k ≤ a.length ∧ i = .int .i64 k ∧ a.take k = b.take k ∧ Same w wr) (fun i _ => a.length - (intOf i).toNat)
    case atStart => exact ⟨0, by omega, rfl, by simp, Same.refl _⟩
    case round =>
      obtain ⟨k, hk, rfl, htk, hsm⟩ := hrel
      have HT := Lib.hid htk; clear htk
      by_cases hlt : k < a.length
      · obtain ⟨ba, oa, rfl, hA⟩ := ha (by omega)
        obtain ⟨bb, ob, rfl, hB⟩ := hb (by omega)
        obtain ⟨A1, c1, ga0, ra0⟩ := hA k (by omega)
        obtain ⟨B1, d1, gb0, rb0⟩ := hB k (by omega)
        have ga := (hsm.cell _).trans ga0
        have gb := (hsm.cell _).trans gb0
        have RA := Lib.hid (ra0.same hsm)
        have RB := Lib.hid (rb0.same hsm)
        have hlt' : k < b.length := by omega
        clear hA hB ga0 gb0 ra0 rb0
        by_cases hd : a[k] = b[k]
        · have hq : (a[k] == b[k]) = true := by simpa using hd
          have HQ := Lib.hid hd; clear hd
          go_wp2
          go_quiet ((go_at_call 15; exact quiet_same (eqIntS_c _ _ _ _ _ (RA.out.drewN _) (RB.out.drewN _))))
          go_wp2
          refine ⟨⟨k + 1, by omega, by go_num, take_snoc_eq hlt hlt' HT.out HQ.out, hsm.drewN _⟩, by simp [intOf]; omega⟩
        · have hq : (a[k] == b[k]) = false := by simpa using hd
          have HQ := Lib.hid hd; clear hd
          go_wp2
          go_quiet ((go_at_call 15; exact quiet_same (eqIntS_c _ _ _ _ _ (RA.out.drewN _) (RB.out.drewN _))))
          go_wp2
          go_ret
          exact ⟨ret_bool (ne_of_getElem hlt hlt' HQ.out).symm, hsm.drewN _⟩
      · go_wp2
        go_ret
        have e : k = a.length := by omega
        subst e
        exact ⟨ret_bool (eq_of_take HL.out HT.out).symm, hsm⟩
  · have hne : ((a.length : Int) != (b.length : Int)) = true := by rw [bne_iff_ne]; omega
    have HL := Lib.hid hlen; clear hlen
    go_enter Try.func36, Try.ntmps36
    go_wp2
    go_ret
    exact ⟨ret_bool (ne_of_length HL.out).symm, Same.refl _⟩

set_option maxHeartbeats 400000 in
theorem toIntSS_c (va : Value) (a : List (List Int)) (w : World) (ha : Rows2 w va a) (hl : a.length ≤ 1048576) (hl2 : ∀ l ∈ a, l.length ≤ 1048576) :
    Calls Try.prog 48 #[va] w (RetRows2 3 24 w a) := by
  obtain ⟨A, ca, rfl, hca, hat⟩ := ha.at_
  have hmk := run_make_row' (P := Try.prog) 25 24 (.slice none 0 0) 24 Try.underlying25 Try.info_ints rfl .i64 .i64 a.length (by omega) (by omega)
  have HL2 := Lib.hid hl2; clear hl2 ha
  go_enter Try.func48, Try.ntmps48
  go_wp2
  clear hmk
  go_loopw [4] (fun i wr => ∃ k : Nat, k ≤ a.length ∧ i = .int .i64 k ∧ ∃ vs : List Value, vs.length = k ∧
      wr.ownsRow w.heap.size 24 1 (.slice (some ⟨w.heap.size, 0, none⟩) a.length a.length) a.length (vs ++ List.replicate (a.length - k) (.slice none 0 0)) ∧
      Own2 3 wr w.heap.size vs (a.take k) ∧ Below w.heap.size w wr) (fun i _ => a.length - (intOf i).toNat)
  case atStart => exact ⟨0, by omega, rfl, [], rfl, by simpa using own_made (Nat.le_refl _) (by unfold maxLen; omega), by simpa using Own2.nil _ _ _, (Below.refl _ _).alloc (Nat.le_refl _) _⟩
  case round =>
    obtain ⟨k, hk, rfl, vs, hvs, ho, ho2, hb⟩ := hrel
    have hHw : w.heap.size < wr.heap.size := (ho.lt w.heap.size rfl).2
    have HV := Lib.hid hvs
    have HO := Lib.hid ho
    have HO2 := Lib.hid ho2
    have HB := Lib.hid hb
    clear hvs ho ho2 hb
    by_cases hlt : k < a.length
    · obtain ⟨ba, oa, rfl, hA⟩ := hat (by omega)
      obtain ⟨A', c', ga0, ra0⟩ := hA k hlt
      have ga : wr.cell? ⟨ba, oa + k, none⟩ = some (.slice A' a[k].length c') := by rw [HB.out.cell (p := ⟨ba, oa + k, none⟩) (World.block_lt_of_cell? _ _ ga0)]; exact ga0
      have RA := Lib.hid (ra0.keep HB.out)
      clear hA ga0 ra0
      go_wp2_with fail
      refine (toIntS_c _ _ _ RA.out (by have := HL2.out a[k] (List.getElem_mem hlt); omega)).mono ?_
      rintro e w1 ⟨v1, rfl, ho1, hb1⟩
      have hz := hb1.size
      have hst : ∃ v0, w1.cell? ⟨w.heap.size, k, none⟩ = some v0 := ⟨_, ((own_keep HO.out hb1).cellAt k (by omega)).trans (List.getElem?_eq_getElem (by have := HO.out.1; omega))⟩
      obtain ⟨v0, hst⟩ := hst
      have hfz := (own_keep HO.out hb1).frozenAt k
      obtain ⟨A1, c1, rfl⟩ : ∃ A1 c1, v1 = .slice A1 a[k].length c1 := by
        rcases ho1.2 with ⟨rfl, h0⟩ | ⟨g, cap, cur, rfl, _⟩
        · exact ⟨none, 0, by rw [h0]⟩
        · exact ⟨_, _, rfl⟩
      have HO1 := Lib.hid ho1
      have HB1 := Lib.hid hb1
      clear ho1 hb1
      go_wp2
      refine ⟨⟨k + 1, by omega, by go_num, vs ++ [.slice A1 a[k].length c1], by simp [HV.out], own_fill hlt HV.out (own_keep HO.out HB1.out), ?_, (HB.out.trans (HB1.out.mono (by omega))).setCell (Nat.le_refl _) _⟩, by simp [intOf]; omega⟩
      rw [List.take_succ_eq_append_getElem hlt]
      have h2 := HO2.out.snoc HB1.out (by omega) (Nat.le_refl _) HO1.out
      have hout : w1.ownsRow w.heap.size 24 1 (.slice (some ⟨w.heap.size, 0, none⟩) a.length a.length) a.length _ := own_keep HO.out HB1.out
      exact (Fr.grown (lo := w.heap.size) (hi := w.heap.size + 1) (hout.stored k _).2 (fun g hg => by injection hg with hg; omega)).own2' h2 (fun u hu g hg => by
        obtain ⟨j, hj, rfl⟩ := List.mem_iff_getElem.1 hu
        have hrow := h2.2.1 j _ _ (List.getElem?_eq_getElem hj) (List.getElem?_eq_getElem (by rw [← h2.1]; exact hj))
        have h3 := (hrow.lt g hg).1
        have h4 := own_ne hrow hout (by decide) hg
        have h5 : g ≠ w.heap.size := fun e => h4 (by rw [e]; rfl)
        omega)
    · have e : k = a.length := by omega
      go_wp2
      go_ret
      refine ⟨_, rfl, ⟨vs, ?_, ?_⟩, HB.out⟩
      · have := HO.out
        rw [e] at this
        simpa using this
      · have := HO2.out
        rw [e, List.take_length] at this
        exact this

def marks2 : Int → List (List Int) → List (List Int)
  | _, [] => []
  | k, l :: r => marks k l :: marks2 (k + l.length) r
theorem marks2_length (k : Int) (ll : List (List Int)) : (marks2 k ll).length = ll.length := by
  induction ll generalizing k with
  | nil => rfl
  | cons x l ih => simp [marks2, ih]
theorem marks2_get (k : Int) (ll : List (List Int)) (j : Nat) (hj : j < ll.length) : (marks2 k ll)[j]? = some (marks (k + upto2 ll j) ll[j]) := by
  induction ll generalizing k j with
  | nil => simp at hj
  | cons x l ih =>
    cases j with
    | zero => simp [marks2, upto2_zero]
    | succ j =>
      have hu : upto2 (x :: l) (j + 1) = x.length + upto2 l j := by simp [upto2, tot2]
      simp only [marks2, List.getElem?_cons_succ, List.getElem_cons_succ]
      rw [ih (k + x.length) j (by simpa using hj), hu]
      congr 2
      simp only [Int.natCast_add]
      omega

/-- the values' own rows, one of them written anew -/
theorem Own2.set_ {t : TypeId} {w w' : World} {base : Nat} {vs : List Value} {ll : List (List Int)} {j : Nat} {u : Value} {l : List Int} (h : Own2 t w base vs ll) (hu : vs[j]? = some u)
    (hn : w'.ownsRow base t 1 u l.length (l.map (Value.int .i64))) (hg : w.grownBy w' u.ownBlock) : Own2 t w' base vs (ll.set j l) := by
  have hj : j < vs.length := by
    rcases Nat.lt_or_ge j vs.length with h1 | h1
    · exact h1
    · rw [List.getElem?_eq_none h1] at hu; cases hu
  refine ⟨by simp [h.1], fun i x y hx hy => ?_, h.2.2⟩
  by_cases e : i = j
  · subst e
    rw [hu] at hx
    injection hx with hx
    subst hx
    rw [List.getElem?_set_self (by rw [← h.1]; exact hj)] at hy
    injection hy with hy
    subst hy
    exact hn
  · rw [List.getElem?_set_ne (fun h => e h.symm)] at hy
    refine (h.2.1 i x y hx hy).kept hg ?_
    cases hxb : x.ownBlock with
    | none => exact .inl rfl
    | some g =>
      refine .inr fun hc => ?_
      have hi : i < vs.length := by
        rcases Nat.lt_or_ge i vs.length with h1 | h1
        · exact h1
        · rw [List.getElem?_eq_none h1] at hx; cases hx
      rw [List.getElem?_eq_getElem hi] at hx
      rw [List.getElem?_eq_getElem hj] at hu
      injection hx with hx
      injection hu with hu
      have hp := List.pairwise_iff_getElem.1 h.2.2
      rcases Nat.lt_or_gt_of_ne e with h1 | h1
      · exact hp i j hi hj h1 g (by rw [hx]; exact hxb) (by rw [hu]; exact hc.symm)
      · exact hp j i hj hi h1 g (by rw [hu]; exact hc.symm) (by rw [hx]; exact hxb)

theorem set_marks2 (k : Int) (ll : List (List Int)) (j : Nat) (hlt : j < ll.length) :
    ((marks2 k ll).take j ++ ll.drop j).set j (marks (k + upto2 ll j) ll[j]) = (marks2 k ll).take (j + 1) ++ ll.drop (j + 1) := by
  have hm : j < (marks2 k ll).length := by rw [marks2_length]; exact hlt
  have hl : ((marks2 k ll).take j).length = j := by rw [List.length_take]; omega
  have hg : (marks2 k ll)[j] = marks (k + upto2 ll j) ll[j] := by
    have := marks2_get k ll j hlt
    rw [List.getElem?_eq_getElem hm] at this
    exact Option.some.inj this
  rw [List.take_succ_eq_append_getElem hm, List.drop_eq_getElem_cons hlt, hg, List.set_append_right _ _ (by rw [hl]; exact Nat.le_refl _), hl, Nat.sub_self, List.set_cons_zero]
  simp

set_option maxHeartbeats 400000 in
theorem markIntSS_c (v : Value) (vs : List Value) (ll : List (List Int)) (k : Int) (base : Nat) (S : Nat → Prop) (w : World) (ho : w.ownsRow base 24 1 v ll.length vs) (ho2 : Own2 3 w base vs ll)
    (hhi : ∀ u ∈ vs, ∀ g, u.ownBlock = some g → S g) (h0 : 0 ≤ k) (h1 : k + tot2 ll ≤ 1099511627776) (hs : ll.length ≤ 9223372036854775807) :
    Calls Try.prog 37 #[v, .int .i64 k] w fun e w' => e = .returned (.int .i64 (k + tot2 ll)) ∧ w'.ownsRow base 24 1 v ll.length vs ∧ Own2 3 w' base vs (marks2 k ll) ∧ FrS S w w' := by
  have HHI := Lib.hid hhi; clear hhi
  rcases Nat.eq_zero_or_pos ll.length with hz | hp
  · have hn : ll = [] := List.eq_nil_of_length_eq_zero hz
    subst hn
    obtain ⟨A, c, rfl⟩ : ∃ A c, v = .slice A 0 c := by
      rcases ho.2 with ⟨rfl, _⟩ | ⟨g, cap, cur, rfl, _⟩
      · exact ⟨_, _, rfl⟩
      · exact ⟨_, _, rfl⟩
    have HO := Lib.hid ho; have HO2 := Lib.hid ho2; clear ho ho2
    go_enter Try.func37, Try.ntmps37
    go_wp2
    refine wp_loop_rounds 1 ?_; rw [rounds_succ]
    go_wp2
    go_ret
    exact ⟨ret_int (by simp [tot2]), HO.out, HO2.out, FrS.refl _ _⟩
  · obtain ⟨g, cap, rfl, hbg, hlt0⟩ := ho.form hp
    have HO := Lib.hid ho; have HO2 := Lib.hid ho2; clear ho ho2
    go_enter Try.func37, Try.ntmps37
    go_wp2
    go_loopw [1, 5] (fun q i wr => ∃ j : Nat, j ≤ ll.length ∧ i = .int .i64 j ∧ q = .int .i64 (k + upto2 ll j) ∧ wr.ownsRow base 24 1 (.slice (some ⟨g, 0, none⟩) ll.length cap) ll.length vs ∧ Own2 3 wr base vs ((marks2 k ll).take j ++ ll.drop j) ∧ FrS S w wr) (fun _ i _ => ll.length - (intOf i).toNat)
    case atStart => exact ⟨0, by omega, rfl, by rw [upto2_zero]; simp, HO.out, by simpa using HO2.out, FrS.refl _ _⟩
    case round =>
      obtain ⟨j, hj, rfl, rfl, hor, hor2, hf⟩ := hrel
      have HR := Lib.hid hor; have HR2 := Lib.hid hor2; have HF := Lib.hid hf
      clear hor hor2 hf
      by_cases hlt : j < ll.length
      · have hjv : j < vs.length := by have := HR.out.1; omega
        have hst : wr.cell? ⟨g, j, none⟩ = some vs[j] := (HR.out.cellAt j (by omega)).trans (List.getElem?_eq_getElem hjv)
        have hrow : ((marks2 k ll).take j ++ ll.drop j)[j]? = some ll[j] := by
          rw [List.getElem?_append_right (by rw [List.length_take, marks2_length]; omega), List.length_take, marks2_length, Nat.min_eq_left (by omega), Nat.sub_self, List.getElem?_drop]
          simp [hlt]
        have hown := HR2.out.2.1 j vs[j] ll[j] (List.getElem?_eq_getElem hjv) hrow
        obtain ⟨A1, c1, hv1⟩ : ∃ A1 c1, vs[j] = .slice A1 ll[j].length c1 := by
          rcases hown.2 with ⟨h1, h0⟩ | ⟨g, cap, cur, h1, _⟩
          · exact ⟨none, 0, by rw [h1, h0]⟩
          · exact ⟨_, _, h1⟩
        have hsum := sum_take_succ ll j hlt
        have hsl := sum_take_le ll (j + 1)
        have HS := Lib.hid hsum
        have hb1 : (upto2 ll j : Int) + k ≤ 1099511627776 := by omega
        have hb2 : (ll[j].length : Int) ≤ 1099511627776 := by omega
        rw [hv1] at hst hown
        have HW := Lib.hid hown
        have HV1 := Lib.hid hv1
        have HRW := Lib.hid hrow
        clear hown hv1 hrow hsum hsl
        go_wp2_with fail
        refine (markIntS_c _ ll[j] _ base _ HW.out (by omega) (by omega) (by omega)).mono ?_
        rintro e w1 ⟨rfl, ho1, hg1⟩
        have HO1 := Lib.hid ho1; have HG1 := Lib.hid hg1
        clear ho1 hg1
        go_wp2
        have hset := HR2.out.set_ (j := j) (u := vs[j]) (l := marks (k + upto2 ll j) ll[j]) (List.getElem?_eq_getElem hjv) (by rw [HV1.out, marks_length]; exact HO1.out) (by rw [HV1.out]; exact HG1.out)
        rw [set_marks2 k ll j hlt] at hset
        refine ⟨⟨j + 1, by omega, by go_num, by rw [HS.out]; go_num, HR.out.kept HG1.out ?_, hset, HF.out.trans (FrS.grown HG1.out (fun q hq => HHI.out vs[j] (List.getElem_mem hjv) q (by rw [HV1.out]; exact hq)))⟩, by simp [intOf]; omega⟩
        right
        intro hc
        exact own_ne HR.out HW.out (by decide) rfl hc.symm
      · go_wp2
        go_ret
        have e : j = ll.length := by omega
        subst e
        have h2 := HR2.out
        rw [List.take_of_length_le (by rw [marks2_length]; exact Nat.le_refl _), List.drop_of_length_le (Nat.le_refl _), List.append_nil] at h2
        exact ⟨ret_int (by rw [upto2_all]), HR.out, h2, HF.out⟩

set_option maxHeartbeats 400000 in
theorem heldIntSS_c (v : Value) (ll : List (List Int)) (k : Int) (w : World) (ho : Rows2 w v (marks2 k ll)) (h0 : 0 ≤ k) (h1 : k + tot2 ll ≤ 1099511627776) :
    Calls Try.prog 38 #[v, .int .i64 k] w fun e w' => e = .returned (.int .i64 (k + tot2 ll)) ∧ w = w' := by
  obtain ⟨A, c, rfl, hc, hat⟩ := ho.at_
  have hL := marks2_length k ll
  have hM : ∀ j (hj : j < (marks2 k ll).length) (hj' : j < ll.length), (marks2 k ll)[j] = marks (k + upto2 ll j) ll[j] := fun j hj hj' => by
    have := marks2_get k ll j hj'
    rw [List.getElem?_eq_getElem hj] at this
    exact Option.some.inj this
  have HM := Lib.hid hM
  clear ho hM
  generalize marks2 k ll = m at hc hat HM hL ⊢
  have hlm : m.length ≤ ll.length := by omega
  have hlm' : ll.length ≤ m.length := by omega
  have HL := Lib.hid hL; clear hL
  go_enter Try.func38, Try.ntmps38
  go_wp2
  go_loop [1, 5] (fun q i => ∃ j : Nat, j ≤ m.length ∧ i = .int .i64 j ∧ q = .int .i64 (k + upto2 ll j)) (fun _ i => m.length - (intOf i).toNat)
  case atStart => exact ⟨0, by omega, rfl, by rw [upto2_zero]; simp⟩
  case round =>
    obtain ⟨j, hj, rfl, rfl⟩ := hrel
    by_cases hlt : j < m.length
    · have hlt' : j < ll.length := by omega
      obtain ⟨b, off, rfl, hcell⟩ := hat (by omega)
      obtain ⟨A', c', g1, g2⟩ := hcell j hlt
      rw [HM.out j hlt hlt'] at g1 g2
      have hsum := sum_take_succ ll j hlt'
      have hsl := sum_take_le ll (j + 1)
      have hb1 : (upto2 ll j : Int) + k ≤ 1099511627776 := by omega
      have hb2 : (ll[j].length : Int) ≤ 1099511627776 := by omega
      have HS := Lib.hid hsum
      have G2 := Lib.hid g2
      clear hcell g2 hsum hsl
      go_wp2_with fail
      refine (heldIntS_c _ _ _ _ G2.out (by omega) (by omega)).mono ?_
      rintro e w' ⟨rfl, rfl⟩
      have hge : ¬ (k + (upto2 ll j : Int) + (ll[j].length : Int) < 0) := by omega
      go_wp2
      refine ⟨⟨j + 1, by omega, by go_num, by rw [HS.out]; go_num⟩, by simp [intOf]; omega⟩
    · go_wp2
      go_ret
      have e : j = ll.length := by omega
      subst e
      exact ⟨ret_int (by rw [upto2_all]), rfl⟩

end Go.Proofs.Ytnijkpbecgifjaa
