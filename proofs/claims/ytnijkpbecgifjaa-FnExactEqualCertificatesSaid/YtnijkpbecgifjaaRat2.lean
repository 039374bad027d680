/-
  Lists of rationals: the contracts of the functions that copy, compare and measure them. Conditions: the arguments read as such data.
-/
import Derived.Test.YtnijkpbecgifjaaRat
import Derived.Deep.RegionHeld3
namespace Go.Proofs.Ytnijkpbecgifjaa
open Go.RowKit

theorem Try.info_rat : ∃ i, Try.prog.info? 63 = some i ∧ i.zero = some (.agg #[.int .i64 0, .int .i64 0]) ∧ i.size = 2 ∧ i.bytes = 16 := by
  have h : (Try.prog.info? 63).map (fun i => (i.zero, i.size, i.bytes)) = some (some (.agg #[.int .i64 0, .int .i64 0]), 2, 16) := by kernel_rfl
  obtain ⟨i, hi, hz⟩ := Option.map_eq_some_iff.1 h
  simp only [Prod.mk.injEq] at hz
  exact ⟨i, hi, hz.1, hz.2.1, hz.2.2⟩
theorem make_rats (n : Nat) (hl : n ≤ 1048576) (w : World) : (Instr.makeSlice 41 (.int .i64 (n : Int)) (.int .i64 (n : Int))).run Try.prog w =
    .ok (.slice (some ⟨w.heap.size, 0, none⟩) n n) (w.alloc (.cells (madeCells #[.int .i64 0, .int .i64 0] (n * 2)) 63)) := by
  obtain ⟨i, hi, hz, hs, hb⟩ := Try.info_rat
  have h := run_make (P := Try.prog) w 41 63 i _ Try.underlying41 hi hz .i64 .i64 n n (by omega) (Int.le_refl _) (by rw [hb]; omega) (by omega)
  simp only [Int.toNat_natCast, hs] at h
  exact h
theorem toList_made2 (z : Value) (n : Nat) : (madeCells #[z, z] n).toList = List.replicate n z := by
  unfold madeCells
  rw [Array.toList_map, List.eq_replicate_iff]
  refine ⟨by simp, fun b hb => ?_⟩
  obtain ⟨x, _, rfl⟩ := List.mem_map.1 hb
  have : x % 2 = 0 ∨ x % 2 = 1 := by omega
  rcases this with h | h <;> simp [h]
theorem own_made2 {w : World} {t : TypeId} {n : Nat} {z : Value} {base : Nat} (hB : base ≤ w.heap.size) (hm : n ≤ maxLen) :
    (w.alloc (.cells (madeCells #[z, z] (n * 2)) t)).ownsRow base t 2 (.slice (some ⟨w.heap.size, 0, none⟩) n n) n (List.replicate (n * 2) z) := by
  refine ⟨by simp, .inr ⟨w.heap.size, n, madeCells #[z, z] (n * 2), rfl, hB, heap_alloc_new w _, Nat.le_refl _, hm, by simp [size_madeCells], ?_⟩⟩
  rw [toList_made2]; simp
/-- a row of pairs that a make has laid, filled up to k -/
theorem own_fill2 {w : World} {base : Nat} {t : TypeId} {g n k : Nat} {xs : List Value} {u u' z : Value} (hk : k < n) (hx : xs.length = k * 2)
    (h : w.ownsRow base t 2 (.slice (some ⟨g, 0, none⟩) n n) n (xs ++ List.replicate ((n - k) * 2) z)) :
    ((w.setCell ⟨g, k * 2, none⟩ u).setCell ⟨g, k * 2 + 1, none⟩ u').ownsRow base t 2 (.slice (some ⟨g, 0, none⟩) n n) n ((xs ++ [u, u']) ++ List.replicate ((n - (k + 1)) * 2) z) := by
  have h1 := ((h.stored (k * 2) u).1.stored (k * 2 + 1) u').1
  have e : ((xs ++ List.replicate ((n - k) * 2) z).set (k * 2) u).set (k * 2 + 1) u' = (xs ++ [u, u']) ++ List.replicate ((n - (k + 1)) * 2) z := by
    obtain ⟨m, hm⟩ : ∃ m, n - k = m + 1 := ⟨n - k - 1, by omega⟩
    rw [hm, show n - (k + 1) = m by omega, show (m + 1) * 2 = m * 2 + 1 + 1 by omega, List.replicate_succ, List.replicate_succ, List.set_append_right _ _ (by omega), hx, Nat.sub_self, List.set_cons_zero,
      List.set_append_right _ _ (by omega), hx, Nat.add_sub_cancel_left]
    simp
  rw [← e]
  exact h1
/-- A call that returns a new list of rationals. -/
def RetRats (t : TypeId) (w : World) (l : List (Int × Int)) (e : Ending) (w' : World) : Prop :=
  ∃ v, e = .returned v ∧ w'.ownsRow w.heap.size t 2 v l.length (flatR l) ∧ Below w.heap.size w w'
theorem flatR_take {l : List (Int × Int)} {k : Nat} (hk : k < l.length) : flatR (l.take (k + 1)) = flatR (l.take k) ++ [.int .i64 l[k].1, .int .i64 l[k].2] := by
  rw [List.take_succ_eq_append_getElem hk, flatR_append]; rfl

theorem toRational_c (x y : Int) (w : World) :
    Calls Try.prog 51 #[.agg #[.int .i64 x, .int .i64 y]] w fun e w' => e = .returned (.agg #[.int .i64 x, .int .i64 y]) ∧ Below w.heap.size w w' := by
  go_enter Try.func51, Try.ntmps51
  go_wp2
  refine bodyPost_ret (v := .agg #[.int .i64 x, .int .i64 y]) (by simp [results, Try.results51, go_sem]) rfl ⟨rfl, below3 _ _ _ _⟩

theorem eqRational_c (x y x' y' : Int) (w : World) :
    Calls Try.prog 52 #[.agg #[.int .i64 x, .int .i64 y], .agg #[.int .i64 x', .int .i64 y']] w fun e w' => e = .returned (.bool ((x, y) == (x', y'))) ∧ Below w.heap.size w w' := by
  have HE := Lib.hid (beq_pair x y x' y')
  by_cases h : x = x'
  · have hn : (x != x') = false := by simpa using h
    have h1 : (x == x') = true := by simpa using h
    have H1 := Lib.hid h1; clear h1 h
    by_cases h : y = y'
    · have hn' : (y != y') = false := by simpa using h
      have h2 : (y == y') = true := by simpa using h
      have H2 := Lib.hid h2; clear h2 h
      go_enter Try.func52, Try.ntmps52
      go_wp2
      go_ret
      exact ⟨ret_bool (by rw [HE.out, H1.out, H2.out]; rfl), below2 _ _ _⟩
    · have hn' : (y != y') = true := by simpa using h
      have h2 : (y == y') = false := by simpa using h
      have H2 := Lib.hid h2; clear h2 h
      go_enter Try.func52, Try.ntmps52
      go_wp2
      go_ret
      exact ⟨ret_bool (by rw [HE.out, H1.out, H2.out]; rfl), below2 _ _ _⟩
  · have hn : (x != x') = true := by simpa using h
    have h1 : (x == x') = false := by simpa using h
    have H1 := Lib.hid h1; clear h1 h
    go_enter Try.func52, Try.ntmps52
    go_wp2
    go_ret
    exact ⟨ret_bool (by rw [HE.out, H1.out]; rfl), below2 _ _ _⟩

theorem szRationalS_c (va : Value) (a : List (Int × Int)) (k : Int) (w : World) (ha : Rats w va a) (h0 : 0 ≤ k) (h1 : k ≤ 1048576) :
    Calls Try.prog 40 #[va, .int .i64 k] w fun e w' => e = .returned (.int .i64 (szS k a.length)) ∧ w = w' := by
  obtain ⟨A, ca, rfl, hca, _⟩ := ha.at_
  clear ha
  by_cases h : k < a.length
  · have h' : k - a.length < 0 := by omega
    have E := Lib.hid (if_pos h : szS k a.length = -1)
    go_enter Try.func40, Try.ntmps40
    go_wp2
    go_ret
    exact ⟨ret_int E.out.symm, rfl⟩
  · have h' : ¬ k - a.length < 0 := by omega
    have E := Lib.hid (if_neg h : szS k a.length = k - a.length)
    go_enter Try.func40, Try.ntmps40
    go_wp2
    go_ret
    exact ⟨ret_int E.out.symm, rfl⟩

set_option maxHeartbeats 400000 in
theorem toRationalS_c (va : Value) (a : List (Int × Int)) (w : World) (ha : Rats w va a) (hl : a.length ≤ 1048576) :
    Calls Try.prog 43 #[va] w (RetRats 63 w a) := by
  obtain ⟨A, ca, rfl, hca, ha⟩ := ha.at_
  have hmk := make_rats a.length hl
  go_enter Try.func43, Try.ntmps43
  go_wp2
  clear hmk
  go_loopw [4] (fun i wr => ∃ k : Nat, k ≤ a.length ∧ i = .int .i64 k ∧ wr.ownsRow w.heap.size 63 2 (.slice (some ⟨w.heap.size, 0, none⟩) a.length a.length) a.length (flatR (a.take k) ++ List.replicate ((a.length - k) * 2) (.int .i64 0)) ∧ Below w.heap.size w wr) (fun i _ => a.length - (intOf i).toNat)
  case atStart => exact ⟨0, by omega, rfl, by simpa [flatR] using own_made2 (Nat.le_refl _) (by unfold maxLen; omega), (Below.refl _ _).alloc (Nat.le_refl _) _⟩
  case round =>
    obtain ⟨k, hk, rfl, ho, hb⟩ := hrel
    by_cases hlt : k < a.length
    · obtain ⟨ba, oa, rfl, hA⟩ := ha (by omega)
      have ga0 := hA k hlt
      have ga : wr.cell? ⟨ba, oa + k * 2, none⟩ = some (.int .i64 a[k].1) := by rw [hb.cell (p := ⟨ba, oa + k * 2, none⟩) (World.block_lt_of_cell? _ _ ga0.1)]; exact ga0.1
      have ga' : wr.cell? ⟨ba, oa + k * 2 + 1, none⟩ = some (.int .i64 a[k].2) := by rw [hb.cell (p := ⟨ba, oa + k * 2 + 1, none⟩) (World.block_lt_of_cell? _ _ ga0.2)]; exact ga0.2
      have HO0 := Lib.hid ho
      have HB := Lib.hid hb
      have hsz : w.heap.size < wr.heap.size := (ho.lt w.heap.size rfl).2
      clear hA ga0 ho hb
      go_wp2_with fail
      refine (toRational_c _ _ _).mono ?_
      rintro e w1 ⟨rfl, hb1⟩
      have ho1 := own_keep HO0.out hb1
      have hst : ∃ v0, w1.cell? ⟨w.heap.size, k * 2, none⟩ = some v0 := ⟨_, (ho1.cellAt (k * 2) (by omega)).trans (List.getElem?_eq_getElem (by simp [flatR_length]; omega))⟩
      have hst' : ∃ v0, w1.cell? ⟨w.heap.size, k * 2 + 1, none⟩ = some v0 := ⟨_, (ho1.cellAt (k * 2 + 1) (by omega)).trans (List.getElem?_eq_getElem (by simp [flatR_length]; omega))⟩
      obtain ⟨v0, hst⟩ := hst
      obtain ⟨v1, hst'⟩ := hst'
      have hfz := ho1.frozenAt (k * 2)
      have hfz' := ho1.frozenAt (k * 2 + 1)
      have HO := Lib.hid (own_fill2 (u := .int .i64 a[k].1) (u' := .int .i64 a[k].2) hlt (by simp [flatR_length]; omega) ho1)
      have HB1 := Lib.hid (HB.out.trans (hb1.mono (by omega)))
      clear hb1 ho1
      go_wp2
      refine ⟨⟨k + 1, by omega, by go_num, ?_, (HB1.out.setCell (Nat.le_refl _) _).setCell (Nat.le_refl _) _⟩, by simp [intOf]; omega⟩
      rw [flatR_take hlt]
      exact HO.out
    · have e : k = a.length := by omega
      have HO := Lib.hid ho
      have HB := Lib.hid hb
      clear ho hb
      go_wp2
      go_ret
      refine ⟨_, rfl, ?_, HB.out⟩
      have := HO.out
      rw [e] at this
      simpa using this

set_option maxHeartbeats 1000000 in
theorem eqRationalS_c (va vb : Value) (a b : List (Int × Int)) (w : World) (ha : Rats w va a) (hb : Rats w vb b) :
    Calls Try.prog 46 #[va, vb] w fun e w' => e = .returned (.bool (a == b)) ∧ Below w.heap.size w w' := by
  obtain ⟨A, ca, rfl, hca, ha⟩ := ha.at_
  obtain ⟨B, cb, rfl, hcb, hb⟩ := hb.at_
  by_cases hlen : a.length = b.length
  · have hne : ((a.length : Int) != (b.length : Int)) = false := by simp [hlen]
    have hle : a.length ≤ b.length := by omega
    have HL := Lib.hid hlen; clear hlen
    go_enter Try.func46, Try.ntmps46
    go_wp2
    go_loopw [5] (fun i wr => ∃ k : Nat, k ≤ a.length ∧ i = .int .i64 k ∧ a.take k = b.take k ∧ Below w.heap.size w wr) (fun i _ => a.length - (intOf i).toNat)
    case atStart => exact ⟨0, by omega, rfl, by simp, Below.refl _ _⟩
    case round =>
      obtain ⟨k, hk, rfl, htk, hsm⟩ := hrel
      have HT := Lib.hid htk; clear htk
      by_cases hlt : k < a.length
      · obtain ⟨ba, oa, rfl, hA⟩ := ha (by omega)
        obtain ⟨bb, ob, rfl, hB⟩ := hb (by omega)
        have hlt' : k < b.length := by omega
        have zA := World.block_lt_of_cell? _ _ (hA k hlt).1
        have zB := World.block_lt_of_cell? _ _ (hB k hlt').1
        have ga := (hsm.cell (p := ⟨ba, oa + k * 2, none⟩) zA).trans (hA k (by omega)).1
        have gb := (hsm.cell (p := ⟨bb, ob + k * 2, none⟩) zB).trans (hB k (by omega)).1
        have ga' := (hsm.cell (p := ⟨ba, oa + k * 2 + 1, none⟩) zA).trans (hA k (by omega)).2
        have gb' := (hsm.cell (p := ⟨bb, ob + k * 2 + 1, none⟩) zB).trans (hB k (by omega)).2
        have hzz := hsm.size
        have yA : ba < wr.heap.size := Nat.lt_of_lt_of_le zA hzz
        have yB : bb < wr.heap.size := Nat.lt_of_lt_of_le zB hzz
        have HS := Lib.hid hsm
        clear hA hB zA zB hsm
        go_wp2
        go_region_held3 (fun w' => w'.cell? ⟨ba, oa + k * 2, none⟩ = some (.int .i64 a[k].1) ∧ w'.cell? ⟨ba, oa + k * 2 + 1, none⟩ = some (.int .i64 a[k].2) ∧ w'.cell? ⟨bb, ob + k * 2, none⟩ = some (.int .i64 b[k].1) ∧ w'.cell? ⟨bb, ob + k * 2 + 1, none⟩ = some (.int .i64 b[k].2))
          (first | exact ⟨ga, ga', gb, gb'⟩ | exact ⟨d0, d1, d2, d3⟩)
          (first | (go_at_call 52; refine (eqRational_c _ _ _ _ _).mono ?_; rintro e w7 ⟨rfl, hb'⟩; have hb7 := undrew hb'; have d0 := (hb7.cell (p := ⟨ba, oa + k * 2, none⟩) yA).trans ga; have d1 := (hb7.cell (p := ⟨ba, oa + k * 2 + 1, none⟩) yA).trans ga'; have d2 := (hb7.cell (p := ⟨bb, ob + k * 2, none⟩) yB).trans gb; have d3 := (hb7.cell (p := ⟨bb, ob + k * 2 + 1, none⟩) yB).trans gb'; have st7 := Lib.hid (HS.out.trans (hb7.mono hzz)); clear hb7 hb'))
        cases hd : ((a[k].1, a[k].2) == (b[k].1, b[k].2)) with
        | true =>
          have HD := Lib.hid hd; clear hd
          go_wp2
          refine ⟨⟨k + 1, by omega, by go_num, take_snoc_eq hlt hlt' HT.out (by have h := HD.out; rw [beq_iff_eq] at h; exact h), st7.out⟩, by simp [intOf]; omega⟩
        | false =>
          have HD := Lib.hid hd; clear hd
          go_wp2
          go_ret
          exact ⟨ret_bool (ne_of_getElem hlt hlt' (by have h := HD.out; rw [beq_eq_false_iff_ne] at h; exact h)).symm, st7.out⟩
      · go_wp2
        go_ret
        have e : k = a.length := by omega
        subst e
        exact ⟨ret_bool (eq_of_take HL.out HT.out).symm, hsm⟩
  · have hne : ((a.length : Int) != (b.length : Int)) = true := by rw [bne_iff_ne]; omega
    have HL := Lib.hid hlen; clear hlen
    go_enter Try.func46, Try.ntmps46
    go_wp2
    go_ret
    exact ⟨ret_bool (ne_of_length HL.out).symm, Below.refl _ _⟩

/-! ### the kit's form -/
def OwRats (t : TypeId) (w : World) (S : Nat → Prop) (v : Value) (l : List (Int × Int)) : Prop := w.ownsRow 0 t 2 v l.length (flatR l) ∧ ∀ g, v.ownBlock = some g → S g
section
variable {t : TypeId} {w w' : World} {S S' : Nat → Prop} {v : Value} {l : List (Int × Int)}
theorem OwRats.keep (h : OwRats t w S v l) (hb : Below w.heap.size w w') : OwRats t w' S v l := ⟨own_keep h.1 hb, h.2⟩
theorem OwRats.fr (h : OwRats t w S v l) (hf : FrS S' w w') (hd : ∀ g, S g → ¬ S' g) : OwRats t w' S v l := ⟨hf.own h.1 (fun g hg => hd g (h.2 g hg)), h.2⟩
theorem OwRats.rd (h : OwRats t w S v l) : Rats w v l := RowAt.of_own h.1
theorem OwRats.form (h : OwRats t w S v l) : ∃ A c, v = .slice A l.length c := own_form h.1
theorem OwRats.mono (h : OwRats t w S v l) (hs : ∀ g, S g → S' g) : OwRats t w S' v l := ⟨h.1, fun g hg => hs g (h.2 g hg)⟩
theorem OwRats.of_own {base : Nat} (h : w.ownsRow base t 2 v l.length (flatR l)) : OwRats t w (fun g => base ≤ g ∧ g < w.heap.size) v l := ⟨h.mono (by omega), fun g hg => h.lt g hg⟩
end
def bulk_RationalS (l : List (Int × Int)) : Nat := l.length
def RetTo_RationalS (w : World) (l : List (Int × Int)) (e : Ending) (w' : World) : Prop := ∃ v, e = .returned v ∧ OwRats 63 w' (Iv w w') v l ∧ Below w.heap.size w w'
theorem sz_RationalS {w : World} {v : Value} {l : List (Int × Int)} {k : Int} (h : Rats w v l) (h0 : 0 ≤ k) (h1 : k ≤ 1048576) :
    Calls Try.prog 40 #[v, .int .i64 k] w fun e w' => e = .returned (.int .i64 (szS k (bulk_RationalS l))) ∧ Below w.heap.size w w' :=
  (szRationalS_c v l k w h h0 h1).mono fun _ _ ⟨he, hw⟩ => ⟨he, hw ▸ Below.refl _ _⟩
theorem to_RationalS {w : World} {v : Value} {l : List (Int × Int)} (h : Rats w v l) (hb : bulk_RationalS l ≤ 1048576) : Calls Try.prog 43 #[v] w (RetTo_RationalS w l) :=
  (toRationalS_c v l w h hb).mono fun _ _ ⟨v', he, ho, hb⟩ => ⟨v', he, OwRats.of_own ho, hb⟩
theorem eq_RationalS {w : World} {va vb : Value} {a b : List (Int × Int)} (ha : Rats w va a) (hb : Rats w vb b) :
    Calls Try.prog 46 #[va, vb] w fun e w' => e = .returned (.bool (a == b)) ∧ Below w.heap.size w w' := eqRationalS_c va vb a b w ha hb

end Go.Proofs.Ytnijkpbecgifjaa
