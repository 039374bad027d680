/-
  Contracts of FullRelation, of the reference and of the program: each returns all rows below the counts, or the empty relation and false. Condition: the argument reads as a list of ints.
-/
import Derived.Test.YtnijkpbecgifjaaRelS
namespace Go.Proofs.Ytnijkpbecgifjaa
open Go.RowKit

/-- each row with each value below c behind it -/
def stepF (rows : List (List Int)) (c : Nat) : List (List Int) := rows.flatMap fun r => (List.range c).map fun (v : Nat) => r ++ [(v : Int)]
/-- all rows below the counts -/
def full (cs : List Int) : List (List Int) := cs.foldl (fun rows c => stepF rows c.toNat) [[]]
/-- what is made of the first j rows, and of q values behind row j -/
def partF (rows : List (List Int)) (c j q : Nat) : List (List Int) := stepF (rows.take j) c ++ (List.range q).map fun (v : Nat) => (rows[j]?.getD []) ++ [(v : Int)]
theorem stepF_length (rows : List (List Int)) (c : Nat) : (stepF rows c).length = rows.length * c := by
  induction rows with
  | nil => simp [stepF]
  | cons r rows ih =>
    simp only [stepF, List.flatMap_cons, List.length_append, List.length_map, List.length_range, List.length_cons] at *
    rw [ih, Nat.succ_mul, Nat.add_comm]
theorem full_take_succ {cs : List Int} {k : Nat} (hk : k < cs.length) : full (cs.take (k + 1)) = stepF (full (cs.take k)) cs[k].toNat := by
  unfold full
  rw [List.take_succ_eq_append_getElem hk, List.foldl_append]; rfl
theorem partF_zero (rows : List (List Int)) (c : Nat) : partF rows c 0 0 = [] := by simp [partF, stepF]
theorem partF_snoc (rows : List (List Int)) (c j q : Nat) : partF rows c j (q + 1) = partF rows c j q ++ [(rows[j]?.getD []) ++ [(q : Int)]] := by
  simp [partF, List.range_succ]
theorem partF_row {rows : List (List Int)} {c j : Nat} (hj : j < rows.length) : partF rows c j c = partF rows c (j + 1) 0 := by
  simp only [partF, stepF]
  rw [List.take_succ_eq_append_getElem hj, List.flatMap_append]
  simp [hj]
theorem partF_all (rows : List (List Int)) (c : Nat) : partF rows c rows.length 0 = stepF rows c := by simp [partF]
theorem partF_length {rows : List (List Int)} {c j q : Nat} (hj : j < rows.length) (hq : q ≤ c) : (partF rows c j q).length ≤ rows.length * c := by
  have h1 : (partF rows c j q).length = j * c + q := by
    simp only [partF, List.length_append, List.length_map, List.length_range, stepF_length, List.length_take]
    rw [Nat.min_eq_left (by omega)]
  have h2 : (j + 1) * c ≤ rows.length * c := Nat.mul_le_mul_right _ (by omega)
  rw [Nat.succ_mul] at h2
  omega
theorem full_row {cs : List Int} : ∀ (k : Nat), k ≤ cs.length → ∀ r ∈ full (cs.take k), r.length = k := by
  intro k
  induction k with
  | zero => intro _ r hr; simp [full] at hr; rw [hr]; rfl
  | succ k ih =>
    intro hk r hr
    rw [full_take_succ (by omega)] at hr
    simp only [stepF, List.mem_flatMap, List.mem_map] at hr
    obtain ⟨r0, h0, v, _, rfl⟩ := hr
    rw [List.length_append, ih (by omega) r0 h0]; rfl
/-- count k is in range, and so is the product so far -/
def passF (cs : List Int) (k : Nat) : Bool := inB (cs[k]?.getD 0) 0 100 && decide (((full (cs.take k)).length : Int) * (cs[k]?.getD 0) ≤ 4000)
def okFull (cs : List Int) : Bool := decide (cs.length ≤ 5) && (List.range cs.length).all (passF cs)
def fullRes (cs : List Int) : Int × List (List Int) × Bool := if okFull cs then (cs.length, full cs, true) else (0, [], false)
theorem okFull_len {cs : List Int} (h : ¬ cs.length ≤ 5) : okFull cs = false := by simp [okFull, h]
theorem okFull_at {cs : List Int} {k : Nat} (hk : k < cs.length) (h : passF cs k = false) : okFull cs = false := by
  cases hv : okFull cs with
  | false => rfl
  | true =>
    simp only [okFull, Bool.and_eq_true, List.all_eq_true, List.mem_range] at hv
    rw [hv.2 k hk] at h; cases h
theorem okFull_yes {cs : List Int} (hl : cs.length ≤ 5) (h : ∀ i, i < cs.length → passF cs i = true) : okFull cs = true := by
  simp only [okFull, Bool.and_eq_true, decide_eq_true_eq, List.all_eq_true, List.mem_range]
  exact ⟨hl, h⟩
theorem passF_in {cs : List Int} {k : Nat} (hk : k < cs.length) (h : inB cs[k] 0 100 = false) : passF cs k = false := by simp [passF, hk, h]
theorem passF_mul {cs : List Int} {k : Nat} (hk : k < cs.length) (h : ¬ ((full (cs.take k)).length : Int) * cs[k] ≤ 4000) : passF cs k = false := by
  simp only [passF, List.getElem?_eq_getElem hk, Option.getD_some, decide_eq_false h, Bool.and_false]
theorem passF_yes {cs : List Int} {k : Nat} (hk : k < cs.length) (h : inB cs[k] 0 100 = true) (h2 : ((full (cs.take k)).length : Int) * cs[k] ≤ 4000) : passF cs k = true := by
  simp only [passF, List.getElem?_eq_getElem hk, Option.getD_some, h, decide_eq_true h2, Bool.and_self]

theorem nat_mul_toNat {n : Nat} {c : Int} (h : 0 ≤ c) : ((n * c.toNat : Nat) : Int) = (n : Int) * c := by
  rw [Int.natCast_mul, Int.toNat_of_nonneg h]

theorem tot2_le {n : Nat} : ∀ (ll : List (List Int)), (∀ l ∈ ll, l.length ≤ n) → tot2 ll ≤ ll.length * n
  | [], _ => by simp [tot2]
  | l :: ll, h => by
    have h1 := tot2_le ll (fun x hx => h x (List.mem_cons_of_mem _ hx))
    have h2 := h l (List.mem_cons_self ..)
    simp only [tot2, List.map_cons, List.sum_cons, List.length_cons, Nat.succ_mul] at *
    omega
theorem full_short {cs : List Int} (h : okFull cs = true) : ∀ (k : Nat), k ≤ cs.length → (full (cs.take k)).length ≤ 4000 := by
  intro k hk
  cases k with
  | zero => simp [full]
  | succ k =>
    simp only [okFull, Bool.and_eq_true, List.all_eq_true, List.mem_range] at h
    have hp := h.2 k (by omega)
    simp only [passF, List.getElem?_eq_getElem (show k < cs.length by omega), Option.getD_some, Bool.and_eq_true, inB_iff, decide_eq_true_eq] at hp
    rw [full_take_succ (by omega), stepF_length]
    have := nat_mul_toNat (n := (full (cs.take k)).length) hp.1.1
    omega
theorem full_tot (cs : List Int) : tot2 (fullRes cs).2.1 ≤ 1073741824 := by
  unfold fullRes
  split
  · rename_i h
    have h1 := full_short h cs.length (Nat.le_refl _)
    have h2 := full_row (cs := cs) cs.length (Nat.le_refl _)
    rw [List.take_length] at h1 h2
    have h5 : cs.length ≤ 5 := by simp only [okFull, Bool.and_eq_true, decide_eq_true_eq] at h; exact h.1
    have h3 := tot2_le (n := 5) (full cs) (fun l hl => by have := h2 l hl; omega)
    simp only
    omega
  · simp [tot2]

/-- A call that returns a new relation and a bool. -/
def RetRelB (t tl : TypeId) (w : World) (r : Int × List (List Int) × Bool) (e : Ending) (w' : World) : Prop :=
  ∃ v, e = .returned (.tuple #[.agg #[.int .i64 r.1, v], .bool r.2.2]) ∧ OwnRows2 t tl w' w.heap.size v r.2.1 ∧ Below w.heap.size w w'

theorem all_succ' {p : Nat → Bool} {k : Nat} (h : ∀ i, i < k → p i = true) (hk : p k = true) : ∀ i, i < k + 1 → p i = true := by
  intro i hi
  by_cases e : i = k
  · rw [e]; exact hk
  · exact h i (by omega)
theorem own_start (t tl : TypeId) (w : World) : OwnRows2 t tl ((w.alloc (.cells #[] t)).alloc (.cells #[.slice (some ⟨w.heap.size, 0, none⟩) 0 0] tl)) w.heap.size (.slice (some ⟨w.heap.size + 1, 0, none⟩) 1 1) [[]] := by
  have h1 := World.ownsRow_lit (base := w.heap.size) (e := tl) (size := 1) (w.alloc (.cells #[] t)) #[.slice (some ⟨w.heap.size, 0, none⟩) 0 0] 1 (by simp) (by unfold maxLen; omega) rfl
  simp only [World.size_alloc] at h1
  refine ⟨_, h1, rfl, fun j u l hu hl => ?_, by simp⟩
  have hj : j = 0 := by
    rcases Nat.eq_zero_or_pos j with h0 | h0
    · exact h0
    · rw [List.getElem?_eq_none (by simp; omega)] at hl; cases hl
  subst hj
  simp only [List.getElem?_cons_zero, Option.some.injEq] at hu hl
  subst hu hl
  exact own_keep (World.ownsRow_lit (base := w.heap.size) (e := t) (size := 1) w #[] 0 (Nat.le_refl _) (by unfold maxLen; omega) rfl) (below1 _ _)
theorem own_empty (t tl : TypeId) (w : World) : OwnRows2 t tl (w.alloc (.cells #[] tl)) w.heap.size (.slice (some ⟨w.heap.size, 0, none⟩) 0 0) [] :=
  ⟨[], World.ownsRow_lit (base := w.heap.size) (e := tl) (size := 1) w #[] 0 (Nat.le_refl _) (by unfold maxLen; omega) rfl, Own2.nil _ _ _⟩
theorem own_lit0 (w : World) (t : TypeId) {base : Nat} (hb : base ≤ w.heap.size) : (w.alloc (.cells #[] t)).ownsRow base t 1 (.slice (some ⟨w.heap.size, 0, none⟩) 0 0) 0 [] :=
  World.ownsRow_lit w #[] 0 hb (by unfold maxLen; omega) rfl

set_option maxHeartbeats 2000000 in
theorem specFullRelation_c (va : Value) (a : List Int) (w : World) (ha : Ints w va a) :
    Calls Try.prog 11 #[va] w (RetRelB 3 24 w (fullRes a)) := by
  have HA := Lib.hid ha
  obtain ⟨A, ca, rfl, hca, _⟩ := ha.at_
  clear ha
  go_enter Try.func11, Try.ntmps11
  go_wp2
  have O0 := own_start 3 24 (w.alloc (.cells #[.int .i64 0, .slice none 0 0] 27))
  simp only [World.size_alloc] at O0
  have HO0 := Lib.hid O0; clear O0
  have HW : Hid (Below w.heap.size w (w.alloc (.cells #[.int .i64 0, .slice none 0 0] 27))) := below1 _ _
  have hR0 : (w.alloc (.cells #[.int .i64 0, .slice none 0 0] 27)).cell? ⟨w.heap.size, 0, none⟩ = some (.int .i64 0) := (cell_new _ _ _ 0).trans rfl
  have hR1 : (w.alloc (.cells #[.int .i64 0, .slice none 0 0] 27)).cell? ⟨w.heap.size, 1, none⟩ = some (.slice none 0 0) := (cell_new _ _ _ 1).trans rfl
  have hRf : ∀ o, (w.alloc (.cells #[.int .i64 0, .slice none 0 0] 27)).frozen? ⟨w.heap.size, o, none⟩ = false := fun o => frozen_of_row _ _ _ _ _ (heap_alloc_new w _)
  have HR0 := Lib.hid hR0; have HR1 := Lib.hid hR1; have HRF := Lib.hid hRf
  clear hR0 hR1 hRf
  go_loopw [4, 5] (fun v i wr => ∃ k : Nat, k ≤ a.length ∧ i = .int .i64 k ∧ (∀ i, i < k → passF a i = true) ∧ OwnRows2 3 24 wr (w.heap.size + 1) v (full (a.take k)) ∧ (full (a.take k)).length ≤ 4000 ∧ (0 < k → a.length ≤ 5) ∧
      Below (w.heap.size + 1) (w.alloc (.cells #[.int .i64 0, .slice none 0 0] 27)) wr) (fun _ i _ => a.length - (intOf i).toNat)
  case atStart => exact ⟨0, by omega, rfl, by simp, HO0.out, by simp [full], by omega, ((below1 _ _).mono (by simp)).trans ((below1 _ _).mono (by simp))⟩
  case round =>
    obtain ⟨k, hk, rfl, hall, hown, hlen, hk5, hbr⟩ := hrel
    have hbw : Below w.heap.size w wr := HW.out.trans (hbr.mono (by omega))
    have r0 := (hbr.cell (p := ⟨w.heap.size, 0, none⟩) (by simp)).trans HR0.out
    have r1 := (hbr.cell (p := ⟨w.heap.size, 1, none⟩) (by simp)).trans HR1.out
    have rf : ∀ o, wr.frozen? ⟨w.heap.size, o, none⟩ = false := fun o => (hbr.frozen (p := ⟨w.heap.size, o, none⟩) (by simp)).trans (HRF.out o)
    have rf0 := rf 0
    have rf1 := rf 1
    have hzr : w.heap.size + 1 ≤ wr.heap.size := by have := hbr.size; simp at this; omega
    obtain ⟨A4, c4, rfl⟩ := hown.form
    obtain ⟨_, _, heq, _, hat⟩ := (HA.out.keep hbw).at_
    injection heq with e1 _ e2
    subst e1 e2
    have HALL := Lib.hid hall; have HOWN := Lib.hid hown; have HBR := Lib.hid hbr; have HBW := Lib.hid hbw
    clear hall hown hbr hbw rf
    by_cases hlt : k < a.length
    · obtain ⟨ba, oa, rfl, hcell⟩ := hat (by omega)
      have ga := hcell k hlt
      clear hcell hat
      cases hin : inB a[k] 0 100 with
      | false =>
        have E := Lib.hid (show fullRes a = (0, [], false) by simp [fullRes, okFull_at hlt (passF_in hlt hin)])
        go_wp2_with (go_at_call 33; refine (l1In_c _ _ _ _).mono ?_; rintro e w' ⟨rfl, rfl⟩)
        refine bodyPost_ret (v := .tuple #[.agg #[.int .i64 0, .slice none 0 0], .bool false]) (by simp [results, Try.results11, go_sem, r0, r1]) rfl ⟨.slice none 0 0, by rw [E.out], by rw [E.out]; exact OwnRows2.nil _ _ _ _, (HBW.out.setCell (Nat.le_refl _) _).setCell (Nat.le_refl _) _⟩
      | true =>
        by_cases h5 : a.length ≤ 5
        · have b5 : decide ((5 : Int) < (a.length : Int)) = false := by simp; omega
          have b5' : ¬ (5 < a.length) := by omega
          obtain ⟨c0, c1⟩ := inB_iff.1 hin
          have hrl := Lib.hid (full_row k hk)
          have hmul : ∀ m : Nat, m ≤ 4000 → 0 ≤ (m : Int) * a[k] ∧ (m : Int) * a[k] ≤ 400000 := fun m hm => by
            have e1 : ((m * a[k].toNat : Nat) : Int) = (m : Int) * a[k] := nat_mul_toNat c0
            have e2 : m * a[k].toNat ≤ 4000 * 100 := Nat.mul_le_mul hm (by omega)
            omega
          obtain ⟨m0, m1⟩ := hmul _ hlen
          have hwr : wrap64 (((full (a.take k)).length : Int) * a[k]) = ((full (a.take k)).length : Int) * a[k] := IntWalk.wrap64_in _ ⟨by omega, by omega⟩
          clear hmul
          by_cases h4 : ((full (a.take k)).length : Int) * a[k] ≤ 4000
          · have b4 : decide ((4000 : Int) < ((full (a.take k)).length : Int) * a[k]) = false := by simp; omega
            go_wp2_with (go_at_call 33; refine (l1In_c _ _ _ _).mono ?_; rintro e w' ⟨rfl, rfl⟩)
            have hN : (full (a.take k)).length * a[k].toNat ≤ 4000 := by have := nat_mul_toNat (n := (full (a.take k)).length) c0; omega
            have HP := Lib.hid (passF_yes hlt hin h4)
            have HFS := Lib.hid (full_take_succ hlt)
            clear hwr b4 b5 b5' m0 m1 h4 hin r0 r1 rf0 rf1
            obtain ⟨wo, rfl⟩ : ∃ wo : World, wo = wr := ⟨_, rfl⟩
            go_loopw [6, 7] (fun v i wr => ∃ j : Nat, j ≤ (full (a.take k)).length ∧ i = .int .i64 j ∧ OwnRows2 3 24 wr wo.heap.size v (partF (full (a.take k)) a[k].toNat j 0) ∧ Below wo.heap.size wo wr) (fun _ i _ => (full (a.take k)).length - (intOf i).toNat)
            case atStart => exact ⟨0, by omega, rfl, by rw [partF_zero]; exact own_empty _ _ _, below1 _ _⟩
            case round =>
              obtain ⟨j, hj, rfl, ho2, hb2⟩ := hrel
              have HO2 := Lib.hid ho2; have HB2 := Lib.hid hb2
              clear ho2 hb2
              by_cases hjl : j < (full (a.take k)).length
              · have hr5 : (full (a.take k))[j].length ≤ 5 := by have := hrl.out _ (List.getElem_mem hjl); omega
                go_wp2
                go_loopw [6, 8] (fun v i wr => ∃ q : Nat, q ≤ a[k].toNat ∧ i = .int .i64 q ∧ OwnRows2 3 24 wr wo.heap.size v (partF (full (a.take k)) a[k].toNat j q) ∧ Below wo.heap.size wo wr) (fun _ i _ => a[k].toNat - (intOf i).toNat)
                case atStart => exact ⟨0, by omega, rfl, HO2.out, HB2.out⟩
                case round =>
                  obtain ⟨q, hq, rfl, ho3, hb3⟩ := hrel
                  have gak := (hb3.cell (p := ⟨ba, oa + k, none⟩) (World.block_lt_of_cell? _ _ ga)).trans ga
                  obtain ⟨_, _, heq, _, hat4⟩ := ((Rows2.of_own HOWN.out).keep hb3).at_
                  injection heq with e1 _ e2
                  subst e1 e2
                  obtain ⟨b4, o4, rfl, hcell4⟩ := hat4 (by omega)
                  obtain ⟨A5, d5, g5, r5⟩ := hcell4 j hjl
                  have hzz := hb3.size
                  have HB3 := Lib.hid hb3; have R5 := Lib.hid r5
                  clear hat4 hcell4 hb3 r5
                  by_cases hql : (q : Int) < a[k]
                  · have hpl := partF_length (c := a[k].toNat) (q := q) hjl (by omega)
                    have hpl' : (partF (full (a.take k)) a[k].toNat j q).length ≤ 4000 := by omega
                    obtain ⟨A6, c6, rfl⟩ := ho3.form
                    obtain ⟨vs, h1, h2⟩ := ho3
                    have H1 := Lib.hid h1; have H2 := Lib.hid h2
                    have g5a : ∀ o, (wr.alloc o).cell? ⟨b4, o4 + j, none⟩ = some (.slice A5 (full (a.take k))[j].length d5) := fun o => ((below1 wr o).cell (p := ⟨b4, o4 + j, none⟩) (World.block_lt_of_cell? _ _ g5)).trans g5
                    clear h1 h2 hpl
                    go_wp2_with (first
                      | (at_builtin; refine wpList_app rfl (.tmp 55) (.tmp 59) 24 rfl wr.heap.size 3 (.int .i64 0) 1 8 Try.underlying24 Try.info_int rfl (by omega) (by omega) (.slice (some ⟨wr.heap.size, 0, none⟩) 0 0) 0 [] rfl (own_lit0 wr 3 (Nat.le_refl _)) (.slice A5 (full (a.take k))[j].length d5) (full (a.take k))[j].length _ rfl (R5.out.keep (below1 _ _)) (ints_oneCell _) (by omega) (by simp) ?_; intro v1 w1 ho1 hg1 hn1; (simp only [Nat.zero_add, List.nil_append] at ho1); have hz1 : wr.heap.size ≤ w1.heap.size := (Nat.le_trans (by simp) hg1.size); have HB1 := Lib.hid ((below1 wr (.cells #[] 3)).grown hg1 (by simp) (fun g hg => by simp [Value.ownBlock] at hg; omega)))
                      | (at_builtin; refine wpList_app1 rfl (.tmp 60) (.tmp 62) 24 rfl wr.heap.size 3 (.int .i64 0) 8 Try.underlying24 Try.info_int rfl (by omega) v1 _ _ rfl ho1 (.int .i64 q) rfl rfl (by omega) hz1 ?_; intro v2 w2 ho2 hg2 hn2; obtain ⟨A2, d2, rfl⟩ := own_form ho2; have hz2 : wr.heap.size ≤ w2.heap.size := (Nat.le_trans hz1 hg2.size); have HB12 := Lib.hid (HB1.out.grown hg2 hz1 (fun g hg => (ho1.lt g hg).1)))
                      | (at_builtin; refine wpList_app1 rfl (.tmp 54) (.tmp 64) 25 rfl wo.heap.size 24 (.slice none 0 0) 24 Try.underlying25 Try.info_ints rfl (by omega) (.slice A6 (partF (full (a.take k)) a[k].toNat j q).length c6) (partF (full (a.take k)) a[k].toNat j q).length vs rfl (own_keep H1.out HB12.out) (.slice A2 ((full (a.take k))[j].length + 1) d2) rfl rfl (by omega) (by omega) ?_; intro v3 w3 ho3 hg3 hn3))
                    refine ⟨⟨q + 1, by omega, by go_num, ?_, (HB3.out.trans (HB12.out.mono (by omega))).grown hg3 (by omega) (fun g hg => (H1.out.lt g hg).1)⟩, by simp [intOf]; omega⟩
                    rw [partF_snoc, List.getElem?_eq_getElem hjl, Option.getD_some]
                    exact own2_push (by decide) H1.out H2.out HB12.out (by omega) (by simpa using ho2) ho3 hg3
                  · have eq : q = a[k].toNat := by omega
                    have HE := Lib.hid eq; clear eq
                    have HO3 := Lib.hid ho3; clear ho3
                    go_wp2
                    refine ⟨⟨j + 1, by omega, by go_num, ?_, HB3.out⟩, by simp [intOf]; omega⟩
                    have := HO3.out
                    rw [HE.out, partF_row hjl] at this
                    exact this
              · have ej : j = (full (a.take k)).length := by omega
                have HE := Lib.hid ej; clear ej
                have hzz := HB2.out.size
                go_wp2
                refine ⟨⟨k + 1, by omega, by go_num, all_succ' HALL.out HP.out, ?_, ?_, fun _ => h5, HBR.out.trans (HB2.out.mono (by omega))⟩, by simp [intOf]; omega⟩
                · have := HO2.out
                  rw [HE.out, partF_all] at this
                  rw [HFS.out]
                  exact this.mono (by omega)
                · rw [HFS.out, stepF_length]; exact hN
          · have b4 : decide ((4000 : Int) < ((full (a.take k)).length : Int) * a[k]) = true := by simp; omega
            have E := Lib.hid (show fullRes a = (0, [], false) by simp [fullRes, okFull_at hlt (passF_mul hlt h4)])
            go_wp2_with (go_at_call 33; refine (l1In_c _ _ _ _).mono ?_; rintro e w' ⟨rfl, rfl⟩)
            refine bodyPost_ret (v := .tuple #[.agg #[.int .i64 0, .slice none 0 0], .bool false]) (by simp [results, Try.results11, go_sem, r0, r1]) rfl ⟨.slice none 0 0, by rw [E.out], by rw [E.out]; exact OwnRows2.nil _ _ _ _, (HBW.out.setCell (Nat.le_refl _) _).setCell (Nat.le_refl _) _⟩
        · have b5 : decide ((5 : Int) < (a.length : Int)) = true := by simp; omega
          have b5' : 5 < a.length := by omega
          have E := Lib.hid (show fullRes a = (0, [], false) by simp [fullRes, okFull_len h5])
          go_wp2_with (go_at_call 33; refine (l1In_c _ _ _ _).mono ?_; rintro e w' ⟨rfl, rfl⟩)
          refine bodyPost_ret (v := .tuple #[.agg #[.int .i64 0, .slice none 0 0], .bool false]) (by simp [results, Try.results11, go_sem, r0, r1]) rfl ⟨.slice none 0 0, by rw [E.out], by rw [E.out]; exact OwnRows2.nil _ _ _ _, (HBW.out.setCell (Nat.le_refl _) _).setCell (Nat.le_refl _) _⟩
    · have ek : k = a.length := by omega
      have hok : okFull a = true := okFull_yes (by
        rcases Nat.eq_zero_or_pos k with h0 | h0
        · omega
        · exact hk5 h0) (by have := HALL.out; rw [ek] at this; exact this)
      have E := Lib.hid (show fullRes a = ((a.length : Int), full a, true) by simp [fullRes, hok])
      have HE := Lib.hid ek
      clear hok ek
      go_wp2
      refine bodyPost_ret (v := .tuple #[.agg #[.int .i64 a.length, .slice A4 (full (a.take k)).length c4], .bool true]) (by simp [results, Try.results11, go_sem, r0, r1]) rfl ⟨.slice A4 (full (a.take k)).length c4, by rw [E.out], ?_, (HBW.out.setCell (Nat.le_refl _) _).setCell (Nat.le_refl _) _⟩
      rw [E.out]
      have := HOWN.out
      have hfr := (((Fr.refl w.heap.size (w.heap.size + 1) wr).setCell (p := ⟨w.heap.size, 0, none⟩) (by constructor <;> simp) (.int .i64 a.length)).setCell (p := ⟨w.heap.size, 1, none⟩) (by constructor <;> simp) (.slice A4 (full (a.take k)).length c4)).ownRows2 this (Nat.le_refl _)
      have h2 := hfr.mono (base' := w.heap.size) (by omega)
      have e2 : full (a.take k) = full a := by rw [HE.out, List.take_length]
      exact (show OwnRows2 _ _ _ _ _ (full a) from e2 ▸ h2)

set_option maxHeartbeats 2000000 in
theorem implFullRelation_c (va : Value) (a : List Int) (w : World) (ha : Ints w va a) :
    Calls Try.prog 13 #[va] w (RetRelB 3 24 w (fullRes a)) := by
  have HA := Lib.hid ha
  obtain ⟨A, ca, rfl, hca, _⟩ := ha.at_
  clear ha
  by_cases h5 : a.length ≤ 5
  · have b5 : decide ((5 : Int) < (a.length : Int)) = false := by simp; omega
    have b5' : ¬ (5 < a.length) := by omega
    go_enter Try.func13, Try.ntmps13
    go_wp2
    clear b5 b5'
    have HW : Hid (Below w.heap.size w (w.alloc (.cells #[.int .i64 0, .slice none 0 0] 27))) := below1 _ _
    obtain ⟨_, _, heq, _, hat⟩ := (HA.out.keep HW.out).at_
    injection heq with e1 _ e2
    subst e1 e2
    go_loop [4, 6, 20] (fun n _ i => ∃ k : Nat, k ≤ a.length ∧ i = .int .i64 k ∧ n = .int .i64 (full (a.take k)).length ∧ (full (a.take k)).length ≤ 4000 ∧ (∀ i, i < k → passF a i = true)) (fun _ _ i => a.length - (intOf i).toNat)
    case atStart => exact ⟨0, by omega, rfl, by simp [full], by simp [full], by simp⟩
    case round =>
      obtain ⟨k, hk, rfl, rfl, hlen, hall⟩ := hrel
      have HALL := Lib.hid hall; clear hall
      by_cases hlt : k < a.length
      · obtain ⟨ba, oa, rfl, hcell⟩ := hat (by omega)
        have ga := hcell k hlt
        clear hcell hat
        cases hin : inB a[k] 0 100 with
        | false =>
          have E := Lib.hid (show fullRes a = (0, [], false) by simp [fullRes, okFull_at hlt (passF_in hlt hin)])
          go_wp2_with (go_at_call 34; refine (within_c _ _ _ _).mono ?_; rintro e w' ⟨rfl, rfl⟩)
          refine bodyPost_ret (v := .tuple #[.agg #[.int .i64 0, .slice none 0 0], .bool false]) (by simp [results, Try.results13, go_sem]) rfl ⟨.slice none 0 0, by rw [E.out], by rw [E.out]; exact OwnRows2.nil _ _ _ _, below1 _ _⟩
        | true =>
          obtain ⟨c0, c1⟩ := inB_iff.1 hin
          have hmul : ∀ m : Nat, m ≤ 4000 → 0 ≤ (m : Int) * a[k] ∧ (m : Int) * a[k] ≤ 400000 := fun m hm => by
            have e1 : ((m * a[k].toNat : Nat) : Int) = (m : Int) * a[k] := nat_mul_toNat c0
            have e2 : m * a[k].toNat ≤ 4000 * 100 := Nat.mul_le_mul hm (by omega)
            omega
          obtain ⟨m0, m1⟩ := hmul _ hlen
          have hwr : wrap64 (((full (a.take k)).length : Int) * a[k]) = ((full (a.take k)).length : Int) * a[k] := IntWalk.wrap64_in _ ⟨by omega, by omega⟩
          clear hmul
          by_cases h4 : ((full (a.take k)).length : Int) * a[k] ≤ 4000
          · have b4 : decide ((4000 : Int) < ((full (a.take k)).length : Int) * a[k]) = false := by simp; omega
            have hN : (((full (a.take k)).length * a[k].toNat : Nat) : Int) = ((full (a.take k)).length : Int) * a[k] := nat_mul_toNat c0
            have HN := Lib.hid hN
            have HP := Lib.hid (passF_yes hlt hin h4)
            have HFS := Lib.hid (full_take_succ hlt)
            clear hN
            go_wp2_with (go_at_call 34; refine (within_c _ _ _ _).mono ?_; rintro e w' ⟨rfl, rfl⟩)
            clear hwr
            refine ⟨⟨k + 1, by omega, by go_num, ?_, ?_, all_succ' HALL.out HP.out⟩, by simp [intOf]; omega⟩
            · rw [HFS.out, stepF_length, HN.out]
            · rw [HFS.out, stepF_length]; have := HN.out; omega
          · have b4 : decide ((4000 : Int) < ((full (a.take k)).length : Int) * a[k]) = true := by simp; omega
            have E := Lib.hid (show fullRes a = (0, [], false) by simp [fullRes, okFull_at hlt (passF_mul hlt h4)])
            go_wp2_with (go_at_call 34; refine (within_c _ _ _ _).mono ?_; rintro e w' ⟨rfl, rfl⟩)
            refine bodyPost_ret (v := .tuple #[.agg #[.int .i64 0, .slice none 0 0], .bool false]) (by simp [results, Try.results13, go_sem]) rfl ⟨.slice none 0 0, by rw [E.out], by rw [E.out]; exact OwnRows2.nil _ _ _ _, below1 _ _⟩
      · have ek : k = a.length := by omega
        have hok : ∀ i, i < a.length → passF a i = true := by have := HALL.out; rw [ek] at this; exact this
        have E := Lib.hid (show fullRes a = ((a.length : Int), full a, true) by simp [fullRes, okFull_yes h5 hok])
        have HOK := Lib.hid hok
        clear hok ek HALL
        go_wp2
        have O0 := own_start 3 24 (w.alloc (.cells #[.int .i64 0, .slice none 0 0] 27))
        simp only [World.size_alloc] at O0
        have HO0 := Lib.hid O0; clear O0
        have hR0 : (w.alloc (.cells #[.int .i64 0, .slice none 0 0] 27)).cell? ⟨w.heap.size, 0, none⟩ = some (.int .i64 0) := (cell_new _ _ _ 0).trans rfl
        have hR1 : (w.alloc (.cells #[.int .i64 0, .slice none 0 0] 27)).cell? ⟨w.heap.size, 1, none⟩ = some (.slice none 0 0) := (cell_new _ _ _ 1).trans rfl
        have hRf : ∀ o, (w.alloc (.cells #[.int .i64 0, .slice none 0 0] 27)).frozen? ⟨w.heap.size, o, none⟩ = false := fun o => frozen_of_row _ _ _ _ _ (heap_alloc_new w _)
        have HR0 := Lib.hid hR0; have HR1 := Lib.hid hR1; have HRF := Lib.hid hRf
        clear hR0 hR1 hRf hat
        go_loopw [7, 9, 39] (fun v _ i wr => ∃ k : Nat, k ≤ a.length ∧ i = .int .i64 k ∧ OwnRows2 3 24 wr (w.heap.size + 1) v (full (a.take k)) ∧ (full (a.take k)).length ≤ 4000 ∧
            Below (w.heap.size + 1) (w.alloc (.cells #[.int .i64 0, .slice none 0 0] 27)) wr) (fun _ _ i _ => a.length - (intOf i).toNat)
        case atStart => exact ⟨0, by omega, rfl, HO0.out, by simp [full], ((below1 _ _).mono (by simp)).trans ((below1 _ _).mono (by simp))⟩
        case round =>
          obtain ⟨k, hk, rfl, hown, hlen, hbr⟩ := hrel
          have hbw : Below w.heap.size w wr := HW.out.trans (hbr.mono (by omega))
          have r0 := (hbr.cell (p := ⟨w.heap.size, 0, none⟩) (by simp)).trans HR0.out
          have r1 := (hbr.cell (p := ⟨w.heap.size, 1, none⟩) (by simp)).trans HR1.out
          have rf : ∀ o, wr.frozen? ⟨w.heap.size, o, none⟩ = false := fun o => (hbr.frozen (p := ⟨w.heap.size, o, none⟩) (by simp)).trans (HRF.out o)
          have rf0 := rf 0
          have rf1 := rf 1
          have hzr : w.heap.size + 1 ≤ wr.heap.size := by have := hbr.size; simp at this; omega
          obtain ⟨A4, c4, rfl⟩ := hown.form
          obtain ⟨_, _, heq, _, hat⟩ := (HA.out.keep hbw).at_
          injection heq with e1 _ e2
          subst e1 e2
          have HOWN := Lib.hid hown; have HBR := Lib.hid hbr; have HBW := Lib.hid hbw
          clear hown hbr hbw rf
          by_cases hlt : k < a.length
          · obtain ⟨ba, oa, rfl, hcell⟩ := hat (by omega)
            have ga := hcell k hlt
            have hps := HOK.out k hlt
            simp only [passF, List.getElem?_eq_getElem hlt, Option.getD_some, Bool.and_eq_true, inB_iff, decide_eq_true_eq] at hps
            obtain ⟨⟨c0, c1⟩, h4⟩ := hps
            have hN : (full (a.take k)).length * a[k].toNat ≤ 4000 := by have := nat_mul_toNat (n := (full (a.take k)).length) c0; omega
            have HFS := Lib.hid (full_take_succ hlt)
            have hrl := Lib.hid (full_row k hk)
            clear hcell hat r0 r1 rf0 rf1 h4
            go_wp2
            obtain ⟨wo, rfl⟩ : ∃ wo : World, wo = wr := ⟨_, rfl⟩
            go_loopw [10, 12, 45] (fun v _ i wr => ∃ j : Nat, j ≤ (full (a.take k)).length ∧ i = .int .i64 j ∧ OwnRows2 3 24 wr wo.heap.size v (partF (full (a.take k)) a[k].toNat j 0) ∧ Below wo.heap.size wo wr) (fun _ _ i _ => (full (a.take k)).length - (intOf i).toNat)
            case atStart => exact ⟨0, by omega, rfl, by rw [partF_zero]; exact OwnRows2.nil _ _ _ _, Below.refl _ _⟩
            case round =>
              obtain ⟨j, hj, rfl, ho2, hb2⟩ := hrel
              have HO2 := Lib.hid ho2; have HB2 := Lib.hid hb2
              obtain ⟨_, _, heq, _, hat4⟩ := (Rows2.of_own HOWN.out).at_
              injection heq with e1 _ e2
              subst e1 e2
              clear ho2 hb2
              by_cases hjl : j < (full (a.take k)).length
              · have hr5 : (full (a.take k))[j].length ≤ 5 := by have := hrl.out _ (List.getElem_mem hjl); omega
                obtain ⟨b4, o4, rfl, hcell4⟩ := hat4 (by omega)
                obtain ⟨A5, d5, g5o, r5⟩ := hcell4 j hjl
                have g5 := (HB2.out.cell (p := ⟨b4, o4 + j, none⟩) (World.block_lt_of_cell? _ _ g5o)).trans g5o
                have R5 := Lib.hid r5
                clear hat4 hcell4 r5 g5o
                go_wp2
                obtain ⟨wm, rfl⟩ : ∃ wm : World, wm = wr := ⟨_, rfl⟩
                go_loopw [10, 13] (fun v i wr => ∃ q : Nat, q ≤ a[k].toNat ∧ i = .int .i64 q ∧ OwnRows2 3 24 wr wo.heap.size v (partF (full (a.take k)) a[k].toNat j q) ∧ Below wo.heap.size wo wr) (fun _ i _ => a[k].toNat - (intOf i).toNat)
                case atStart => exact ⟨0, by omega, rfl, HO2.out, HB2.out⟩
                case round =>
                  obtain ⟨q, hq, rfl, ho3, hb3⟩ := hrel
                  have hzz := hb3.size
                  have HB3 := Lib.hid hb3
                  clear hb3
                  by_cases hql : (q : Int) < a[k]
                  · have hpl := partF_length (c := a[k].toNat) (q := q) hjl (by omega)
                    have hpl' : (partF (full (a.take k)) a[k].toNat j q).length ≤ 4000 := by omega
                    obtain ⟨A6, c6, rfl⟩ := ho3.form
                    obtain ⟨vs, h1, h2⟩ := ho3
                    have H1 := Lib.hid h1; have H2 := Lib.hid h2
                    clear h1 h2 hpl
                    go_wp2_with fail
                    refine (copyInts_c _ _ _ (R5.out.keep HB3.out) (by omega)).mono ?_
                    rintro e w1 ⟨v1, rfl, ho1, hb1⟩
                    have hz1 := hb1.size
                    have HB1 := Lib.hid hb1
                    clear hb1
                    go_wp2_with (first
                      | (at_builtin; refine wpList_app1 rfl (.tmp 56) (.tmp 58) 24 rfl wr.heap.size 3 (.int .i64 0) 8 Try.underlying24 Try.info_int rfl (by omega) v1 _ _ rfl ho1 (.int .i64 q) rfl rfl (by omega) hz1 ?_; intro v2 w2 ho2 hg2 hn2; obtain ⟨A2, d2, rfl⟩ := own_form ho2; have hz2 : wr.heap.size ≤ w2.heap.size := (Nat.le_trans hz1 hg2.size); have HB12 := Lib.hid (HB1.out.grown hg2 hz1 (fun g hg => (ho1.lt g hg).1)))
                      | (at_builtin; refine wpList_app1 rfl (.tmp 54) (.tmp 60) 25 rfl wo.heap.size 24 (.slice none 0 0) 24 Try.underlying25 Try.info_ints rfl (by omega) (.slice A6 (partF (full (a.take k)) a[k].toNat j q).length c6) (partF (full (a.take k)) a[k].toNat j q).length vs rfl (own_keep H1.out HB12.out) (.slice A2 ((full (a.take k))[j].length + 1) d2) rfl rfl (by omega) (by omega) ?_; intro v3 w3 ho3 hg3 hn3))
                    have hbb : Below wo.heap.size wo w3 := (HB3.out.trans (HB12.out.mono (by omega))).grown hg3 (by omega) (fun g hg => (H1.out.lt g hg).1)
                    refine ⟨⟨q + 1, by omega, by go_num, ?_, hbb⟩, by simp [intOf]; omega⟩
                    · rw [partF_snoc, List.getElem?_eq_getElem hjl, Option.getD_some]
                      exact own2_push (by decide) H1.out H2.out HB12.out (by omega) (by simpa using ho2) ho3 hg3
                  · have eq : q = a[k].toNat := by omega
                    have HE := Lib.hid eq; clear eq
                    have HO3 := Lib.hid ho3; clear ho3
                    go_wp2
                    refine ⟨⟨j + 1, by omega, by go_num, ?_, HB3.out⟩, by simp [intOf]; omega⟩
                    have := HO3.out
                    rw [HE.out, partF_row hjl] at this
                    exact this
              · have ej : j = (full (a.take k)).length := by omega
                have HE := Lib.hid ej; clear ej
                have hzz := HB2.out.size
                go_wp2
                refine ⟨⟨k + 1, by omega, by go_num, ?_, ?_, HBR.out.trans (HB2.out.mono (by omega))⟩, by simp [intOf]; omega⟩
                · have := HO2.out
                  rw [HE.out, partF_all] at this
                  rw [HFS.out]
                  exact this.mono (by omega)
                · rw [HFS.out, stepF_length]; exact hN
          · have ek : k = a.length := by omega
            have HE := Lib.hid ek
            clear ek
            go_wp2
            refine bodyPost_ret (v := .tuple #[.agg #[.int .i64 a.length, .slice A4 (full (a.take k)).length c4], .bool true]) (by simp [results, Try.results13, go_sem, r0, r1]) rfl ⟨.slice A4 (full (a.take k)).length c4, by rw [E.out], ?_, (HBW.out.setCell (Nat.le_refl _) _).setCell (Nat.le_refl _) _⟩
            rw [E.out]
            have := HOWN.out
            have hfr := (((Fr.refl w.heap.size (w.heap.size + 1) wr).setCell (p := ⟨w.heap.size, 0, none⟩) (by constructor <;> simp) (.int .i64 a.length)).setCell (p := ⟨w.heap.size, 1, none⟩) (by constructor <;> simp) (.slice A4 (full (a.take k)).length c4)).ownRows2 this (Nat.le_refl _)
            have h2 := hfr.mono (base' := w.heap.size) (by omega)
            have e2 : full (a.take k) = full a := by rw [HE.out, List.take_length]
            exact (show OwnRows2 _ _ _ _ _ (full a) from e2 ▸ h2)
  · have b5 : decide ((5 : Int) < (a.length : Int)) = true := by simp; omega
    have b5' : 5 < a.length := by omega
    have E := Lib.hid (show fullRes a = (0, [], false) by simp [fullRes, okFull_len h5])
    go_enter Try.func13, Try.ntmps13
    go_wp2
    refine bodyPost_ret (v := .tuple #[.agg #[.int .i64 0, .slice none 0 0], .bool false]) (by simp [results, Try.results13, go_sem]) rfl ⟨.slice none 0 0, by rw [E.out], by rw [E.out]; exact OwnRows2.nil _ _ _ _, below1 _ _⟩

end Go.Proofs.Ytnijkpbecgifjaa
