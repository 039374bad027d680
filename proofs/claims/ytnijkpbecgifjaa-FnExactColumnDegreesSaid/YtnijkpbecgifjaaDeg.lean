/-
  Contracts of ColumnDegrees, MaxColumnDegree and DistinctCount, of the reference and of the program: each returns what the Lean function of the same meaning gives. Condition: the argument reads as a relation.
-/
import Derived.Test.YtnijkpbecgifjaaValid
namespace Go.Proofs.Ytnijkpbecgifjaa
open Go.RowKit

/-- how many of the rows have v in column c -/
def cntCol (rows : List (List Int)) (c : Nat) (v : Int) : Nat := rows.countP (fun r => r[c]?.getD 0 == v)
theorem cntCol_snoc {rows : List (List Int)} {c : Nat} {v : Int} {k : Nat} (hk : k < rows.length) : cntCol (rows.take (k + 1)) c v = cntCol (rows.take k) c v + (if rows[k][c]?.getD 0 == v then 1 else 0) := by
  unfold cntCol
  rw [List.take_succ_eq_append_getElem hk, List.countP_append]
  simp [List.countP_cons]
theorem cntCol_le (rows : List (List Int)) (c : Nat) (v : Int) : cntCol rows c v ≤ rows.length := List.countP_le_length
/-- the values below n of column c -/
def degV (rows : List (List Int)) (c n : Nat) : List Int := ((List.range n).filter fun (v : Nat) => decide (0 < cntCol rows c (v : Int))).map fun (v : Nat) => (v : Int)
/-- how often they occur -/
def degN (rows : List (List Int)) (c n : Nat) : List Int := ((List.range n).filter fun (v : Nat) => decide (0 < cntCol rows c (v : Int))).map fun (v : Nat) => ((cntCol rows c (v : Int) : Nat) : Int)
theorem degV_yes {rows : List (List Int)} {c n : Nat} (h : 0 < cntCol rows c (n : Int)) : degV rows c (n + 1) = degV rows c n ++ [(n : Int)] := by
  simp [degV, List.range_succ, List.filter_append, h]
theorem degV_no {rows : List (List Int)} {c n : Nat} (h : ¬ 0 < cntCol rows c (n : Int)) : degV rows c (n + 1) = degV rows c n := by
  simp [degV, List.range_succ, List.filter_append, h]
theorem degN_yes {rows : List (List Int)} {c n : Nat} (h : 0 < cntCol rows c (n : Int)) : degN rows c (n + 1) = degN rows c n ++ [((cntCol rows c (n : Int) : Nat) : Int)] := by
  simp [degN, List.range_succ, List.filter_append, h]
theorem degN_no {rows : List (List Int)} {c n : Nat} (h : ¬ 0 < cntCol rows c (n : Int)) : degN rows c (n + 1) = degN rows c n := by
  simp [degN, List.range_succ, List.filter_append, h]
theorem degV_length (rows : List (List Int)) (c n : Nat) : (degV rows c n).length ≤ n := by
  have := List.length_filter_le (fun v => decide (0 < cntCol rows c ((v : Nat) : Int))) (List.range n)
  simpa [degV] using this
theorem degN_length (rows : List (List Int)) (c n : Nat) : (degN rows c n).length = (degV rows c n).length := by simp [degN, degV]
/-- the column is one of the relation's -/
def colOk (ar : Int) (rows : List (List Int)) (col : Int) : Bool := validRel ar rows && inB col 0 (ar - 1)
def degs (ar : Int) (rows : List (List Int)) (col : Int) : List Int × List Int :=
  if colOk ar rows col then (degV rows col.toNat 100, degN rows col.toNat 100) else ([], [])

/-- A call that returns two new lists of ints. -/
def RetInts2 (t : TypeId) (w : World) (l : List Int × List Int) (e : Ending) (w' : World) : Prop :=
  ∃ v1 v2, e = .returned (.tuple #[v1, v2]) ∧ w'.ownsRow w.heap.size t 1 v1 l.1.length (l.1.map (Value.int .i64)) ∧ w'.ownsRow w.heap.size t 1 v2 l.2.length (l.2.map (Value.int .i64)) ∧ Apart v1 v2 ∧ Below w.heap.size w w'

theorem colOk_row {ar : Int} {rows : List (List Int)} {col : Int} (h : colOk ar rows col = true) {k : Nat} (hk : k < rows.length) : 0 ≤ col ∧ col.toNat < rows[k].length ∧ (rows[k].length : Int) = ar ∧ vals rows[k] = true := by
  simp only [colOk, Bool.and_eq_true] at h
  have h1 := (validRel_iff.1 h.1).2.2 k hk
  have h2 := inB_iff.1 h.2
  simp only [okAt, Bool.and_eq_true, decide_eq_true_eq] at h1
  have h3 := h1.1.1
  have h4 := h1.1.2
  rw [List.getElem?_eq_getElem hk] at h3 h4
  simp only [Option.getD_some] at h3 h4
  exact ⟨h2.1, by omega, h3, h4⟩

theorem own_lit0 (w : World) (t : TypeId) {base : Nat} (hb : base ≤ w.heap.size) : (w.alloc (.cells #[] t)).ownsRow base t 1 (.slice (some ⟨w.heap.size, 0, none⟩) 0 0) 0 [] :=
  World.ownsRow_lit w #[] 0 hb (by unfold maxLen; omega) rfl

set_option maxHeartbeats 1000000 in
theorem specColumnDegrees_c (va : Value) (ar : Int) (a : List (List Int)) (col : Int) (w : World) (ha : Rows2 w va a) :
    Calls Try.prog 30 #[.agg #[.int .i64 ar, va], .int .i64 col] w (RetInts2 3 w (degs ar a col)) := by
  have HR := Lib.hid ha
  obtain ⟨A, ca, rfl, hca, _⟩ := ha.at_
  clear ha
  go_enter Try.func30, Try.ntmps30
  go_wp2_with fail
  have hBW : Below w.heap.size w (((w.alloc (.cells #[.int .i64 ar, .slice A a.length ca] 27)).alloc (.cells #[] 3)).alloc (.cells #[] 3)) := ((below1 _ _).alloc (by simp) _).alloc (by simp; omega) _
  refine (specIsValidRelation_c _ ar a _ (HR.out.keep hBW)).mono ?_
  rintro e w1 ⟨rfl, hb1⟩
  have hb : Below w.heap.size w w1 := hBW.trans (hb1.mono (by simp; omega))
  have c0 : w1.cell? ⟨w.heap.size, 0, none⟩ = some (.int .i64 ar) := by
    rw [hb1.cell (p := ⟨w.heap.size, 0, none⟩) (by simp; omega), (below1 _ _).cell (p := ⟨w.heap.size, 0, none⟩) (by simp; omega), (below1 _ _).cell (p := ⟨w.heap.size, 0, none⟩) (by simp), cell_new]; rfl
  have c1 : w1.cell? ⟨w.heap.size, 1, none⟩ = some (.slice A a.length ca) := by
    rw [hb1.cell (p := ⟨w.heap.size, 1, none⟩) (by simp; omega), (below1 _ _).cell (p := ⟨w.heap.size, 1, none⟩) (by simp; omega), (below1 _ _).cell (p := ⟨w.heap.size, 1, none⟩) (by simp), cell_new]; rfl
  have o1 := own_lit0 (w.alloc (.cells #[.int .i64 ar, .slice A a.length ca] 27)) 3 (base := w.heap.size + 1) (by simp)
  have o2 := own_lit0 ((w.alloc (.cells #[.int .i64 ar, .slice A a.length ca] 27)).alloc (.cells #[] 3)) 3 (base := w.heap.size + 1) (by simp)
  replace o1 := own_keep (own_keep o1 (below1 _ _)) hb1
  replace o2 := own_keep o2 hb1
  simp only [World.size_alloc] at o1 o2
  have hz : w.heap.size + 1 + 1 < w1.heap.size := by have := hb1.size; simp at this; omega
  have HB := Lib.hid hb
  have O1 := Lib.hid o1
  have O2 := Lib.hid o2
  clear hBW hb1 hb o1 o2
  cases hok : validRel ar a with
  | false =>
    have E := Lib.hid (show degs ar a col = ([], []) by simp [degs, colOk, hok])
    go_wp2
    go_ret2
    refine ⟨_, _, rfl, ?_, ?_, ?_, HB.out⟩
    · rw [E.out]; exact O1.out.mono (by omega)
    · rw [E.out]; exact O2.out.mono (by omega)
    · intro g h1 h2; simp [Value.ownBlock] at h1 h2; omega
  | true =>
    have har := (validRel_iff.1 hok).1
    have har1 := har.1
    have har2 := har.2
    have hl4 := (validRel_iff.1 hok).2.1
    cases hin : inB col 0 (ar - 1) with
    | false =>
      have E := Lib.hid (show degs ar a col = ([], []) by simp [degs, colOk, hok, hin])
      clear hok har
      go_wp2_with (go_at_call 33; refine (l1In_c _ _ _ _).mono ?_; rintro e w' ⟨rfl, rfl⟩)
      go_ret2
      refine ⟨_, _, rfl, ?_, ?_, ?_, HB.out⟩
      · rw [E.out]; exact O1.out.mono (by omega)
      · rw [E.out]; exact O2.out.mono (by omega)
      · intro g h1 h2; simp [Value.ownBlock] at h1 h2; omega
    | true =>
      have hcol : colOk ar a col = true := by simp [colOk, hok, hin]
      have E := Lib.hid (show degs ar a col = (degV a col.toNat 100, degN a col.toNat 100) by simp [degs, hcol])
      have HC := Lib.hid hcol
      clear hcol hok har
      go_wp2_with (go_at_call 33; refine (l1In_c _ _ _ _).mono ?_; rintro e w' ⟨rfl, rfl⟩)
      clear hin
      have HC0 := Lib.hid c0; have HC1 := Lib.hid c1; clear c0 c1
      go_loopw [6, 7, 8] (fun v6 v7 i wr => ∃ k : Nat, k ≤ 100 ∧ i = .int .i64 k ∧ wr.ownsRow (w.heap.size + 1) 3 1 v6 (degV a col.toNat k).length ((degV a col.toNat k).map (Value.int .i64)) ∧
          wr.ownsRow (w.heap.size + 1) 3 1 v7 (degN a col.toNat k).length ((degN a col.toNat k).map (Value.int .i64)) ∧ Apart v6 v7 ∧ Below (w.heap.size + 1) w1 wr) (fun _ _ i _ => 100 - (intOf i).toNat)
      case atStart => exact ⟨0, by omega, rfl, O1.out, O2.out, fun g h1 h2 => by simp [Value.ownBlock] at h1 h2; omega, Below.refl _ _⟩
      case round =>
        obtain ⟨k, hk, rfl, hv, hn, hap, hbr⟩ := hrel
        have c0 := (hbr.cell (p := ⟨w.heap.size, 0, none⟩) (by simp)).trans HC0.out
        have c1 := (hbr.cell (p := ⟨w.heap.size, 1, none⟩) (by simp)).trans HC1.out
        have hbw : Below w.heap.size w wr := HB.out.trans (hbr.mono (by omega))
        have hzr : w.heap.size + 1 ≤ wr.heap.size := by have := hbr.size; omega
        obtain ⟨_, _, heq, _, hat⟩ := (HR.out.keep hbw).at_
        injection heq with e1 _ e2
        subst e1 e2
        have HV := Lib.hid hv; have HN := Lib.hid hn; have HAP := Lib.hid hap; have HBR := Lib.hid hbr; have HBW := Lib.hid hbw
        clear hv hn hap hbr hbw
        obtain ⟨wo, rfl⟩ : ∃ wo : World, wo = wr := ⟨_, rfl⟩
        by_cases hlt : k < 100
        · have hle : (k : Int) ≤ 99 := by omega
          go_wp2
          go_loop [9, 10] (fun n i => ∃ j : Nat, j ≤ a.length ∧ i = .int .i64 j ∧ n = .int .i64 (cntCol (a.take j) col.toNat k)) (fun _ i => a.length - (intOf i).toNat)
          case atStart => exact ⟨0, by omega, rfl, by simp [cntCol]⟩
          case round =>
            obtain ⟨j, hj, rfl, rfl⟩ := hrel
            have hcl := cntCol_le (a.take j) col.toNat k
            have hcl2 : (a.take j).length ≤ j := List.length_take_le _ _
            by_cases hjl : j < a.length
            · obtain ⟨b, off, rfl, hcell⟩ := hat (by omega)
              obtain ⟨A1, d1, g1, r1⟩ := hcell j hjl
              obtain ⟨q1, q2, q3, q4⟩ := colOk_row HC.out hjl
              obtain ⟨_, _, heq, _, hin1⟩ := r1.at_
              injection heq with e1 _ e2
              subst e1 e2
              obtain ⟨b1, off1, rfl, hc1⟩ := hin1 (by omega)
              have g2 := hc1 col.toNat q2
              have hci : col < (a[j].length : Int) := by omega
              have hsn := cntCol_snoc (c := col.toNat) (v := k) hjl
              rw [List.getElem?_eq_getElem q2, Option.getD_some] at hsn
              have HSN := Lib.hid hsn
              clear hcell r1 hin1 hc1 hsn q3 q4
              by_cases hx : a[j][col.toNat] = (k : Int)
              · have bx : (a[j][col.toNat] == (k : Int)) = true := by simpa using hx
                have HX := Lib.hid bx; clear hx
                go_wp2
                refine ⟨⟨j + 1, by omega, by go_num, ?_⟩, by simp [intOf]; omega⟩
                rw [HSN.out, HX.out]; go_num
              · have bx : (a[j][col.toNat] == (k : Int)) = false := by simpa using hx
                have HX := Lib.hid bx; clear hx
                go_wp2
                refine ⟨⟨j + 1, by omega, by go_num, ?_⟩, by simp [intOf]; omega⟩
                rw [HSN.out, HX.out]; simp
            · have ej : j = a.length := by omega
              have etk : a.take j = a := by rw [ej, List.take_length]
              by_cases hp : 0 < cntCol a col.toNat k
              · have hp' : 0 < cntCol (a.take j) col.toNat k := by rw [etk]; exact hp
                have D1 := Lib.hid (degV_yes hp); have D2 := Lib.hid (degN_yes hp)
                have hlv := degV_length a col.toNat k
                have hln := degN_length a col.toNat k
                have hln' : (degN a col.toNat k).length ≤ 100 := by omega
                have ET := Lib.hid etk
                clear etk ej hp hln
                go_wp2_with (first
                  | (at_builtin; refine wpList_app1 rfl (.tmp 51) (.tmp 53) 24 rfl (w.heap.size + 1) 3 (.int .i64 0) 8 Try.underlying24 Try.info_int rfl (by omega) _ _ _ rfl HV.out (.int .i64 k) rfl rfl (by omega) hzr ?_; intro v1 w2 ho1 hg1 hn1; have hz2 := hg1.size)
                  | (at_builtin; refine wpList_app1 rfl (.tmp 55) (.tmp 57) 24 rfl (w.heap.size + 1) 3 (.int .i64 0) 8 Try.underlying24 Try.info_int rfl (by omega) _ _ _ rfl (HN.out.kept hg1 HAP.out.far) (.int .i64 (cntCol (a.take j) col.toNat k)) rfl rfl (by omega) (by omega) ?_; intro v2 w3 ho2 hg2 hn2))
                have hA1 := hn1.apart HAP.out (fun g hg => (HN.out.lt g hg).2)
                refine ⟨⟨k + 1, by omega, by go_num, ?_, ?_, (hn2.apart hA1.symm (fun g hg => (ho1.lt g hg).2)).symm, (HBR.out.grown hg1 hzr (fun g hg => (HV.out.lt g hg).1)).grown hg2 (by omega) (fun g hg => (HN.out.lt g hg).1)⟩, by simp [intOf]; omega⟩
                · rw [D1.out]; simpa using ho1.kept hg2 hA1.symm.far
                · rw [ET.out] at ho2
                  rw [D2.out]; simpa using ho2
              · have hp' : ¬ 0 < cntCol (a.take j) col.toNat k := by rw [etk]; exact hp
                have D1 := Lib.hid (degV_no hp); have D2 := Lib.hid (degN_no hp)
                clear etk ej hp
                go_wp2
                refine ⟨⟨k + 1, by omega, by go_num, ?_, ?_, HAP.out, HBR.out⟩, by simp [intOf]; omega⟩
                · rw [D1.out]; exact HV.out
                · rw [D2.out]; exact HN.out
        · have ek : k = 100 := by omega
          have hle : ¬ (k : Int) ≤ 99 := by omega
          have HE := Lib.hid ek; clear ek
          go_wp2
          go_ret2
          refine ⟨_, _, rfl, ?_, ?_, HAP.out, HBW.out⟩
          · have := HV.out; rw [HE.out] at this; rw [E.out]; exact this.mono (by omega)
          · have := HN.out; rw [HE.out] at this; rw [E.out]; exact this.mono (by omega)

theorem own_eq {w : World} {base : Nat} {e : TypeId} {size : Nat} {v : Value} {n : Nat} {xs ys : List Value} (h : xs = ys) (ho : w.ownsRow base e size v n xs) : w.ownsRow base e size v n ys := h ▸ ho
/-- how often each value below 100 occurs in column c -/
def seen (rows : List (List Int)) (c : Nat) : List Int := (List.range 100).map fun (v : Nat) => ((cntCol rows c (v : Int) : Nat) : Int)
theorem seen_length (rows : List (List Int)) (c : Nat) : (seen rows c).length = 100 := by simp [seen]
theorem seen_get (rows : List (List Int)) (c : Nat) {x : Nat} (hx : x < 100) : (seen rows c)[x]? = some ((cntCol rows c (x : Int) : Nat) : Int) := by simp [seen, hx]
theorem seen_nil (c : Nat) : seen [] c = List.replicate 100 0 := by
  apply List.ext_getElem?
  intro j
  by_cases hj : j < 100
  · rw [seen_get _ _ hj, List.getElem?_replicate, if_pos hj]; rfl
  · rw [List.getElem?_eq_none (by rw [seen_length]; omega), List.getElem?_eq_none (by rw [List.length_replicate]; omega)]
theorem seen_snoc {rows : List (List Int)} {c k : Nat} (hk : k < rows.length) {x : Int} (hx : rows[k][c]?.getD 0 = x) (h0 : 0 ≤ x) (h1 : x ≤ 99) :
    (seen (rows.take k) c).set x.toNat (((cntCol (rows.take k) c x : Nat) : Int) + 1) = seen (rows.take (k + 1)) c := by
  apply List.ext_getElem?
  intro j
  by_cases hj : j < 100
  · rw [seen_get _ _ hj, cntCol_snoc hk, hx]
    by_cases e : x.toNat = j
    · subst e
      rw [List.getElem?_set_self (by rw [seen_length]; exact hj)]
      have hxx : ((x.toNat : Nat) : Int) = x := by omega
      rw [hxx]
      simp
    · rw [List.getElem?_set_ne e, seen_get _ _ hj]
      have : (x == (j : Int)) = false := by simp; omega
      simp [this]
  · rw [List.getElem?_eq_none (by rw [List.length_set, seen_length]; omega), List.getElem?_eq_none (by rw [seen_length]; omega)]

set_option maxHeartbeats 1000000 in
theorem implColumnDegrees_c (va : Value) (ar : Int) (a : List (List Int)) (col : Int) (w : World) (ha : Rows2 w va a) :
    Calls Try.prog 31 #[.agg #[.int .i64 ar, va], .int .i64 col] w (RetInts2 3 w (degs ar a col)) := by
  have HR := Lib.hid ha
  obtain ⟨A, ca, rfl, hca, _⟩ := ha.at_
  clear ha
  obtain ⟨i0, hi0, hz0, hz1, hz2⟩ := info_parts Try.info_int
  go_enter Try.func31, Try.ntmps31
  go_wp2_with fail
  refine (implIsValidRelation_c _ ar a _ (HR.out.keep (below1 _ _))).mono ?_
  rintro e w1 ⟨rfl, hb1⟩
  have hb : Below w.heap.size w w1 := (below1 _ _).trans (hb1.mono (by simp))
  have c0 : w1.cell? ⟨w.heap.size, 0, none⟩ = some (.int .i64 ar) := by rw [hb1.cell (p := ⟨w.heap.size, 0, none⟩) (by simp), cell_new]; rfl
  have c1 : w1.cell? ⟨w.heap.size, 1, none⟩ = some (.slice A a.length ca) := by rw [hb1.cell (p := ⟨w.heap.size, 1, none⟩) (by simp), cell_new]; rfl
  have hz : w.heap.size + 1 ≤ w1.heap.size := by have := hb1.size; simp at this; omega
  have HB := Lib.hid hb
  clear hb1 hb
  cases hok : validRel ar a with
  | false =>
    have E := Lib.hid (show degs ar a col = ([], []) by simp [degs, colOk, hok])
    go_wp2
    go_ret2
    refine ⟨_, _, rfl, ?_, ?_, ?_, HB.out⟩
    · rw [E.out]; exact World.ownsRow_nil _ _ _ _
    · rw [E.out]; exact World.ownsRow_nil _ _ _ _
    · intro g h1 h2; simp [Value.ownBlock] at h1
  | true =>
    have har := (validRel_iff.1 hok).1
    have har1 := har.1
    have har2 := har.2
    have hl4 := (validRel_iff.1 hok).2.1
    cases hin : inB col 0 (ar - 1) with
    | false =>
      have E := Lib.hid (show degs ar a col = ([], []) by simp [degs, colOk, hok, hin])
      clear hok har
      go_wp2_with (go_at_call 34; refine (within_c _ _ _ _).mono ?_; rintro e w' ⟨rfl, rfl⟩)
      go_ret2
      refine ⟨_, _, rfl, ?_, ?_, ?_, HB.out⟩
      · rw [E.out]; exact World.ownsRow_nil _ _ _ _
      · rw [E.out]; exact World.ownsRow_nil _ _ _ _
      · intro g h1 h2; simp [Value.ownBlock] at h1
    | true =>
      have hcol : colOk ar a col = true := by simp [colOk, hok, hin]
      have E := Lib.hid (show degs ar a col = (degV a col.toNat 100, degN a col.toNat 100) by simp [degs, hcol])
      have HC := Lib.hid hcol
      clear hcol hok har
      go_wp2_with (first | (go_at_call 34; refine (within_c _ _ _ _).mono ?_; rintro e w' ⟨rfl, rfl⟩) | (at_make; refine wpList_make_full _ rfl (.const (.int .i64 100)) (.const (.int .i64 100)) 24 rfl (w.heap.size + 1) 3 i0 (.int .i64 0) 1 Try.underlying24 hi0 hz0 hz1 .i64 .i64 100 100 100 rfl rfl rfl rfl (by rw [hz2]; omega) (by unfold maxLen; omega) hz ?_; intro wm om hgm; have c1m := hgm.cell c1 (by simp)))
      clear hin
      have hzm := hgm.size
      have O0 := Lib.hid om; have HGM := Lib.hid hgm
      clear om hgm c1m
      obtain ⟨_, _, heq, _, hat⟩ := (HR.out.keep HB.out).at_
      injection heq with e1 _ e2
      subst e1 e2
      clear c0 c1
      go_loopw [8, 28] (fun _ i wr => ∃ k : Nat, k ≤ a.length ∧ i = .int .i64 k ∧ wr.ownsRow (w.heap.size + 1) 3 1 (.slice (some ⟨w1.heap.size, 0, none⟩) 100 100) 100 ((seen (a.take k) col.toNat).map (Value.int .i64)) ∧ Below w1.heap.size w1 wr) (fun _ i _ => a.length - (intOf i).toNat)
      case atStart => exact ⟨0, by omega, rfl, by rw [List.take_zero, seen_nil, List.map_replicate]; exact own_eq (toList_madeCells_one _ _) O0.out, ⟨HGM.out.os, HGM.out.tape, HGM.out.output, HGM.out.size, fun i hi => HGM.out.block i hi (by simp)⟩⟩
      case round =>
        obtain ⟨k, hk, rfl, hs, hbr⟩ := hrel
        have HS := Lib.hid hs; have HBR := Lib.hid hbr
        clear hs hbr
        by_cases hlt : k < a.length
        · obtain ⟨b, off, rfl, hcell⟩ := hat (by omega)
          obtain ⟨A1, d1, g10, r1⟩ := hcell k hlt
          obtain ⟨q1, q2, q3, q4⟩ := colOk_row HC.out hlt
          obtain ⟨_, _, heq, _, hin1⟩ := r1.at_
          injection heq with e1 _ e2
          subst e1 e2
          obtain ⟨b1, off1, rfl, hc1⟩ := hin1 (by omega)
          have g20 := hc1 col.toNat q2
          have g1 := (HBR.out.cell (p := ⟨b, off + k, none⟩) (World.block_lt_of_cell? _ _ g10)).trans g10
          have g2 := (HBR.out.cell (p := ⟨b1, off1 + col.toNat, none⟩) (World.block_lt_of_cell? _ _ g20)).trans g20
          have hci : col < (a[k].length : Int) := by omega
          obtain ⟨x0, x1⟩ := vals_at q4 q2
          have hx : a[k][col.toNat]?.getD 0 = a[k][col.toNat] := by rw [List.getElem?_eq_getElem q2]; rfl
          have HX := Lib.hid hx
          have g3 : wr.cell? ⟨w1.heap.size, a[k][col.toNat].toNat, none⟩ = some (.int .i64 (cntCol (a.take k) col.toNat a[k][col.toNat])) := by
            rw [HS.out.cellAt _ (by omega), List.getElem?_map, seen_get _ _ (by omega), show ((a[k][col.toNat].toNat : Nat) : Int) = a[k][col.toNat] by omega]
            rfl
          have hfz := HS.out.frozenAt a[k][col.toNat].toNat
          have hcl := cntCol_le (a.take k) col.toNat a[k][col.toNat]
          have hcl2 : (a.take k).length ≤ k := List.length_take_le _ _
          clear hcell r1 hin1 hc1 q3 q4 g10 g20 hx
          go_wp2
          refine ⟨⟨k + 1, by omega, by go_num, ?_, HBR.out.setCell (by simp) _⟩, by simp [intOf]; omega⟩
          have := (HS.out.stored a[k][col.toNat].toNat (.int .i64 (cntCol (a.take k) col.toNat a[k][col.toNat] + 1))).1
          rw [← seen_snoc hlt HX.out x0 x1, List.map_set]
          exact this
        · have ek : k = a.length := by omega
          have hs2 := HS.out
          rw [ek, List.take_length] at hs2
          have HS2 := Lib.hid hs2
          have hz2 : w1.heap.size < wr.heap.size := (hs2.lt w1.heap.size rfl).2
          have HE := Lib.hid ek
          clear ek hs2 HS
          obtain ⟨wo, rfl⟩ : ∃ wo : World, wo = wr := ⟨_, rfl⟩
          go_wp2
          go_loopw [9, 10, 11, 12, 44] (fun v6 v7 _ _ i wr => ∃ k : Nat, k ≤ 100 ∧ i = .int .i64 k ∧ wr.ownsRow (wo.heap.size) 3 1 v6 (degV a col.toNat k).length ((degV a col.toNat k).map (Value.int .i64)) ∧
              wr.ownsRow (wo.heap.size) 3 1 v7 (degN a col.toNat k).length ((degN a col.toNat k).map (Value.int .i64)) ∧ Apart v6 v7 ∧ Below wo.heap.size wo wr) (fun _ _ _ _ i _ => 100 - (intOf i).toNat)
          case atStart => exact ⟨0, by omega, rfl, World.ownsRow_nil _ _ _ _, World.ownsRow_nil _ _ _ _, fun g h1 h2 => by simp [Value.ownBlock] at h1, Below.refl _ _⟩
          case round =>
            obtain ⟨q, hq, rfl, hv, hn, hap, hb2⟩ := hrel
            have HV := Lib.hid hv; have HN := Lib.hid hn; have HAP := Lib.hid hap; have HB2 := Lib.hid hb2
            have hzr := hb2.size
            clear hv hn hap hb2
            by_cases hlt2 : q < 100
            · have g3 : wr.cell? ⟨w1.heap.size, q, none⟩ = some (.int .i64 (cntCol a col.toNat q)) := by
                rw [HB2.out.cell (p := ⟨w1.heap.size, q, none⟩) hz2, HS2.out.cellAt _ (by omega), List.getElem?_map, seen_get _ _ (by omega)]
                rfl
              have hcl := cntCol_le a col.toNat q
              by_cases hp : 0 < cntCol a col.toNat q
              · have D1 := Lib.hid (degV_yes hp); have D2 := Lib.hid (degN_yes hp)
                have hlv := degV_length a col.toNat q
                have hln := degN_length a col.toNat q
                have hln' : (degN a col.toNat q).length ≤ 100 := by omega
                clear hln
                go_wp2_with (first
                  | (at_builtin; refine wpList_app1 rfl (.tmp 51) (.tmp 53) 24 rfl wo.heap.size 3 (.int .i64 0) 8 Try.underlying24 Try.info_int rfl (by omega) _ _ _ rfl HV.out (.int .i64 q) rfl rfl (by omega) hzr ?_; intro v1 w2 ho1 hg1 hn1; have hz3 := hg1.size)
                  | (at_builtin; refine wpList_app1 rfl (.tmp 55) (.tmp 57) 24 rfl wo.heap.size 3 (.int .i64 0) 8 Try.underlying24 Try.info_int rfl (by omega) _ _ _ rfl (HN.out.kept hg1 HAP.out.far) (.int .i64 (cntCol a col.toNat q)) rfl rfl (by omega) (by omega) ?_; intro v2 w3 ho2 hg2 hn2))
                have hA1 := hn1.apart HAP.out (fun g hg => (HN.out.lt g hg).2)
                refine ⟨⟨q + 1, by omega, by go_num, ?_, ?_, (hn2.apart hA1.symm (fun g hg => (ho1.lt g hg).2)).symm, (HB2.out.grown hg1 hzr (fun g hg => (HV.out.lt g hg).1)).grown hg2 (by omega) (fun g hg => (HN.out.lt g hg).1)⟩, by simp [intOf]; omega⟩
                · rw [D1.out]; simpa using ho1.kept hg2 hA1.symm.far
                · rw [D2.out]; simpa using ho2
              · have D1 := Lib.hid (degV_no hp); have D2 := Lib.hid (degN_no hp)
                go_wp2
                refine ⟨⟨q + 1, by omega, by go_num, ?_, ?_, HAP.out, HB2.out⟩, by simp [intOf]; omega⟩
                · rw [D1.out]; exact HV.out
                · rw [D2.out]; exact HN.out
            · have eq : q = 100 := by omega
              have HE2 := Lib.hid eq; clear eq
              go_wp2
              go_ret2
              refine ⟨_, _, rfl, ?_, ?_, HAP.out, HB.out.trans ((HBR.out.mono (by omega)).trans (HB2.out.mono (by omega)))⟩
              · have := HV.out; rw [HE2.out] at this; rw [E.out]; exact this.mono (by omega)
              · have := HN.out; rw [HE2.out] at this; rw [E.out]; exact this.mono (by omega)

end Go.Proofs.Ytnijkpbecgifjaa
