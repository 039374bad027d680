/-
  Contracts of the functions that copy, mark and measure lists of ints. Conditions: the arguments read as lists of ints (for the marks: they are memory that a call has made).
-/
import Derived.Test.YtnijkpbecgifjaaInts
import Derived.Test.YtnijkpbecgifjaaOwn
namespace Go.Proofs.Ytnijkpbecgifjaa
open Go.RowKit

theorem Try.info_int : (Try.prog.info? 3).map (fun i => (i.zero, i.size, i.bytes)) = some (some (.int .i64 0), 1, 8) := by kernel_rfl
theorem Try.info_ints : (Try.prog.info? 24).map (fun i => (i.zero, i.size, i.bytes)) = some (some (.slice none 0 0), 1, 24) := by kernel_rfl

set_option maxHeartbeats 400000 in
theorem toIntS_c (va : Value) (a : List Int) (w : World) (ha : Ints w va a) (hl : 8 * a.length ≤ 281474976710656) :
    Calls Try.prog 12 #[va] w (RetInts 3 w a) := by
  obtain ⟨A, ca, rfl, hca, ha⟩ := ha.at_
  have hmk := run_make_row' (P := Try.prog) 24 3 (.int .i64 0) 8 Try.underlying24 Try.info_int rfl .i64 .i64 a.length hl (by omega)
  go_enter Try.func12, Try.ntmps12
  go_wp2
  clear hmk
  go_loopw [4] (fun i wr => ∃ k : Nat, k ≤ a.length ∧ i = .int .i64 k ∧ wr.ownsRow w.heap.size 3 1 (.slice (some ⟨w.heap.size, 0, none⟩) a.length a.length) a.length ((a.take k).map (Value.int .i64) ++ List.replicate (a.length - k) (.int .i64 0)) ∧ Below w.heap.size w wr) (fun i _ => a.length - (intOf i).toNat)
  case atStart => exact ⟨0, by omega, rfl, by simpa using own_made (Nat.le_refl _) (by unfold maxLen; omega), (Below.refl _ _).alloc (Nat.le_refl _) _⟩
  case round =>
    obtain ⟨k, hk, rfl, ho, hb⟩ := hrel
    by_cases hlt : k < a.length
    · obtain ⟨ba, oa, rfl, hA⟩ := ha (by omega)
      have ga0 := hA k hlt
      have ga : wr.cell? ⟨ba, oa + k, none⟩ = some (.int .i64 a[k]) := by rw [hb.cell (p := ⟨ba, oa + k, none⟩) (World.block_lt_of_cell? _ _ ga0)]; exact ga0
      have hst : ∃ v0, wr.cell? ⟨w.heap.size, k, none⟩ = some v0 := ⟨_, (ho.cellAt k (by omega)).trans (List.getElem?_eq_getElem (by simp; omega))⟩
      obtain ⟨v0, hst⟩ := hst
      have hfz := ho.frozenAt k
      have HO := Lib.hid (own_fill (u := .int .i64 a[k]) hlt (by simp; omega) ho)
      have HB := Lib.hid hb
      clear hA ga0 ho hb
      go_wp2
      refine ⟨⟨k + 1, by omega, by go_num, ?_, HB.out.setCell (Nat.le_refl _) _⟩, by simp [intOf]; omega⟩
      rw [map_take_succ _ hlt]
      exact HO.out
    · have e : k = a.length := by omega
      have HO := Lib.hid ho
      have HB := Lib.hid hb
      clear ho hb
      go_wp2
      go_ret
      refine ⟨_, rfl, ?_, HB.out⟩
      have := HO.out
      rw [e] at this
      simpa using this

theorem copyInts_c (va : Value) (a : List Int) (w : World) (ha : Ints w va a) (hl : a.length * 8 ≤ 140737488355328) :
    Calls Try.prog 35 #[va] w (RetInts 3 w a) := by
  have H := Lib.hid ha
  obtain ⟨A, ca, rfl, hca, _⟩ := ha.at_
  clear ha
  go_enter Try.func35, Try.ntmps35
  go_wp2_with (at_builtin; refine wpList_app rfl (.tmp 3) (.tmp 4) 24 rfl w.heap.size 3 (.int .i64 0) 1 8 Try.underlying24 Try.info_int rfl (by omega) (by omega) (.slice (some ⟨w.heap.size, 0, none⟩) 0 0) 0 [] rfl (World.ownsRow_lit w #[] 0 (Nat.le_refl _) (by unfold maxLen; omega) rfl) _ a.length _ rfl (H.out.keep ((Below.refl _ _).alloc (Nat.le_refl _) _)) (ints_oneCell a) (by omega) (by simp) ?_; intro v1 w1 ho1 hg1 hat1)
  go_ret
  refine ⟨v1, rfl, by simpa using ho1, ?_⟩
  exact ((Below.refl _ _).alloc (Nat.le_refl _) _).grown hg1 (by simp) (fun k hk => by simp [Value.ownBlock] at hk; omega)

/-- what is left of k after n, or -1 -/
def szS (k : Int) (n : Nat) : Int := if k < n then -1 else k - n

theorem szIntS_c (va : Value) (a : List Int) (k : Int) (w : World) (ha : Ints w va a) (h0 : 0 ≤ k) (h1 : k ≤ 1048576) :
    Calls Try.prog 39 #[va, .int .i64 k] w fun e w' => e = .returned (.int .i64 (szS k a.length)) ∧ w = w' := by
  obtain ⟨A, ca, rfl, hca, _⟩ := ha.at_
  clear ha
  by_cases h : k < a.length
  · have h' : k - a.length < 0 := by omega
    have E := Lib.hid (if_pos h : szS k a.length = -1)
    go_enter Try.func39, Try.ntmps39
    go_wp2
    go_ret
    exact ⟨ret_int E.out.symm, rfl⟩
  · have h' : ¬ k - a.length < 0 := by omega
    have E := Lib.hid (if_neg h : szS k a.length = k - a.length)
    go_enter Try.func39, Try.ntmps39
    go_wp2
    go_ret
    exact ⟨ret_int E.out.symm, rfl⟩

/-- k, k + 1, .. -/
def marks (k : Int) : List Int → List Int
  | [] => []
  | _ :: l => k :: marks (k + 1) l
theorem marks_length (k : Int) (l : List Int) : (marks k l).length = l.length := by
  induction l generalizing k with
  | nil => rfl
  | cons x l ih => simp [marks, ih]
theorem marks_get (k : Int) (l : List Int) (j : Nat) (hj : j < (marks k l).length) : (marks k l)[j] = k + j := by
  induction l generalizing k j with
  | nil => simp [marks] at hj
  | cons x l ih =>
    cases j with
    | zero => simp [marks]
    | succ j => simp only [marks, List.getElem_cons_succ]; rw [ih]; omega

theorem marks_set (k : Int) (l : List Int) (j : Nat) (hlt : j < l.length) :
    (((marks k l).take j ++ l.drop j).map (Value.int .i64)).set j (.int .i64 (k + j)) = ((marks k l).take (j + 1) ++ l.drop (j + 1)).map (Value.int .i64) := by
  have hm : j < (marks k l).length := by rw [marks_length]; exact hlt
  have hl : ((marks k l).take j).length = j := by rw [List.length_take]; omega
  rw [List.take_succ_eq_append_getElem hm, List.drop_eq_getElem_cons hlt, marks_get, List.map_append, List.set_append_right _ _ (by rw [List.length_map, hl]; exact Nat.le_refl _), List.length_map, hl, Nat.sub_self, List.map_cons, List.set_cons_zero]
  simp only [List.map_append, List.append_assoc]
  rfl

set_option maxHeartbeats 400000 in
theorem markIntS_c (v : Value) (l : List Int) (k : Int) (base : Nat) (w : World) (ho : w.ownsRow base 3 1 v l.length (l.map (Value.int .i64))) (h0 : 0 ≤ k) (h1 : k ≤ 1099511627776) (hl : l.length ≤ 281474976710656) :
    Calls Try.prog 16 #[v, .int .i64 k] w fun e w' => e = .returned (.int .i64 (k + l.length)) ∧ w'.ownsRow base 3 1 v l.length ((marks k l).map (Value.int .i64)) ∧ w.grownBy w' v.ownBlock := by
  rcases Nat.eq_zero_or_pos l.length with hz | hp
  · have hn : l = [] := List.eq_nil_of_length_eq_zero hz
    subst hn
    obtain ⟨A, c, rfl⟩ : ∃ A c, v = .slice A 0 c := by
      rcases ho.2 with ⟨rfl, _⟩ | ⟨g, cap, cur, rfl, _⟩
      · exact ⟨_, _, rfl⟩
      · exact ⟨_, _, rfl⟩
    have HO := Lib.hid ho; clear ho
    go_enter Try.func16, Try.ntmps16
    go_wp2
    refine wp_loop_rounds 1 ?_; rw [rounds_succ]
    go_wp2
    go_ret
    exact ⟨ret_int (by simp), HO.out, World.grownBy.refl _ _⟩
  · obtain ⟨g, cap, rfl, hbg, hlt0⟩ := ho.form hp
    have HO := Lib.hid ho; clear ho
    go_enter Try.func16, Try.ntmps16
    go_wp2
    go_loopw [1, 5] (fun q i wr => ∃ j : Nat, j ≤ l.length ∧ i = .int .i64 j ∧ q = .int .i64 (k + j) ∧ wr.ownsRow base 3 1 (.slice (some ⟨g, 0, none⟩) l.length cap) l.length (((marks k l).take j ++ l.drop j).map (Value.int .i64)) ∧ w.grownBy wr (some g)) (fun _ i _ => l.length - (intOf i).toNat)
    case atStart => exact ⟨0, by omega, rfl, by simp, by simpa using HO.out, World.grownBy.refl _ _⟩
    case round =>
      obtain ⟨j, hj, rfl, rfl, hor, hg⟩ := hrel
      by_cases hlt : j < l.length
      · have hst : ∃ v0, wr.cell? ⟨g, j, none⟩ = some v0 := ⟨_, (hor.cellAt j (by omega)).trans (List.getElem?_eq_getElem (by simp [marks_length]; omega))⟩
        obtain ⟨v0, hst⟩ := hst
        have hfz := hor.frozenAt j
        have HS := Lib.hid (hor.stored j (.int .i64 (k + j)))
        have HG := Lib.hid hg
        clear hor hg
        go_wp2
        refine ⟨⟨j + 1, by omega, by go_num, by go_num, ?_, HG.out.trans HS.out.2⟩, by simp [intOf]; omega⟩
        rw [← marks_set k l j hlt]
        exact HS.out.1
      · have HR := Lib.hid hor
        have HG := Lib.hid hg
        clear hor hg
        go_wp2
        go_ret
        have e : j = l.length := by omega
        subst e
        refine ⟨rfl, ?_, HG.out⟩
        have := HR.out
        rw [List.take_of_length_le (by rw [marks_length]; exact Nat.le_refl _), List.drop_of_length_le (Nat.le_refl _), List.append_nil] at this
        exact this

set_option maxHeartbeats 400000 in
theorem heldIntS_c (v : Value) (l : List Int) (k : Int) (w : World) (ho : Ints w v (marks k l)) (h0 : 0 ≤ k) (h1 : k + l.length ≤ 2199023255552) :
    Calls Try.prog 32 #[v, .int .i64 k] w fun e w' => e = .returned (.int .i64 (k + l.length)) ∧ w = w' := by
  obtain ⟨A, c, rfl, hc, hat⟩ := ho.at_
  clear ho
  have hL := marks_length k l
  have HM := Lib.hid (marks_get k l)
  generalize marks k l = m at hc hat HM hL ⊢
  have hlm : m.length ≤ l.length := by omega
  have HL := Lib.hid hL; clear hL
  go_enter Try.func32, Try.ntmps32
  go_wp2
  go_loop [1, 5] (fun q i => ∃ j : Nat, j ≤ m.length ∧ i = .int .i64 j ∧ q = .int .i64 (k + j)) (fun _ i => m.length - (intOf i).toNat)
  case atStart => exact ⟨0, by omega, rfl, by simp⟩
  case round =>
    obtain ⟨j, hj, rfl, rfl⟩ := hrel
    by_cases hlt : j < m.length
    · obtain ⟨b, off, rfl, hcell⟩ := hat (by omega)
      have g1 := hcell j hlt
      rw [HM.out j hlt] at g1
      have hne : (k + j != k + j) = false := by simp
      clear hcell
      go_wp2
      refine ⟨⟨j + 1, by omega, by go_num, by go_num⟩, by simp [intOf]; omega⟩
    · go_wp2
      go_ret
      have e : j = m.length := by omega
      subst e
      exact ⟨ret_int (by rw [HL.out]), rfl⟩

end Go.Proofs.Ytnijkpbecgifjaa
