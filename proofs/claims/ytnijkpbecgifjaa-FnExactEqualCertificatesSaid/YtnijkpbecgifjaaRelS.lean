/-
  Contracts of the functions that copy, compare, mark and measure relations (a struct of an arity and rows). Conditions: the arguments read as such data (for the marks: they are memory that a call has made).
-/
import Derived.Test.YtnijkpbecgifjaaRel
namespace Go.Proofs.Ytnijkpbecgifjaa
open Go.RowKit

/-- A call that returns a new relation. -/
def RetRel (t tl : TypeId) (w : World) (ar : Int) (ll : List (List Int)) (e : Ending) (w' : World) : Prop :=
  ∃ v, e = .returned (.agg #[.int .i64 ar, v]) ∧ OwnRows2 t tl w' w.heap.size v ll ∧ Below w.heap.size w w'

theorem szRelation_c (va : Value) (ar : Int) (a : List (List Int)) (k : Int) (w : World) (ha : Rows2 w va a) (h0 : 0 ≤ k) (h1 : k ≤ 1048576) :
    Calls Try.prog 24 #[.agg #[.int .i64 ar, va], .int .i64 k] w fun e w' => e = .returned (.int .i64 (szS k (bulk2 a))) ∧ Below w.heap.size w w' := by
  have HA := Lib.hid ha
  obtain ⟨A, ca, rfl, _, _⟩ := ha.at_
  clear ha
  go_enter Try.func24, Try.ntmps24
  go_wp2_with fail
  refine (szIntSS_c _ a k _ (HA.out.keep (below1 _ _)) h0 h1).mono ?_
  rintro e w' ⟨rfl, rfl⟩
  by_cases h : k < bulk2 a
  · rw [szS_no h]
    go_wp2
    go_ret
    exact ⟨ret_int (by rw [szS_no h]), below1 _ _⟩
  · rw [szS_yes h]
    have hp : ¬ (k - (bulk2 a : Int) < 0) := by omega
    have H := Lib.hid h; clear h
    go_wp2
    go_ret
    exact ⟨ret_int (by rw [szS_yes (by have := H.out; omega)]), below1 _ _⟩

set_option maxHeartbeats 400000 in
theorem toRelation_c (va : Value) (ar : Int) (a : List (List Int)) (w : World) (ha : Rows2 w va a) (hl : a.length ≤ 1048576) (hl2 : ∀ l ∈ a, l.length ≤ 1048576) :
    Calls Try.prog 26 #[.agg #[.int .i64 ar, va]] w (RetRel 3 24 w ar a) := by
  have HA := Lib.hid ha
  have HL2 := Lib.hid hl2
  obtain ⟨A, ca, rfl, _, _⟩ := ha.at_
  clear ha hl2
  go_enter Try.func26, Try.ntmps26
  go_wp2_with fail
  refine (toIntSS_c _ a _ (HA.out.keep (((below1 _ _).alloc (by simp) _).alloc (by simp; omega) _)) hl HL2.out).mono ?_
  rintro e w1 ⟨v1, rfl, ho1, hb1⟩
  obtain ⟨hc, hf⟩ := bcell hb1
  have hz : w.heap.size + 1 + 1 < w1.heap.size := by have := hb1.size; simp at this; omega
  obtain ⟨A1, c1, rfl⟩ := ho1.form
  have HO := Lib.hid ho1
  have HB := Lib.hid hb1
  clear ho1 hb1
  go_wp2
  refine bodyPost_ret (v := .agg #[.int .i64 ar, .slice A1 a.length c1]) (by simp [results, Try.results26, go_sem, hc]) rfl ⟨_, rfl, ?_, ?_⟩
  · have hown := HO.out
    simp only [World.size_alloc] at hown
    exact ((((Fr.refl w.heap.size (w.heap.size + 1 + 1 + 1) w1).setCell (by constructor <;> simp <;> omega) _).setCell (by constructor <;> simp) _).setCell (by constructor <;> simp) _).ownRows2 hown (Nat.le_refl _) |>.mono (by omega)
  · exact ((((((below1 _ _).alloc (by simp) _).alloc (by simp; omega) _).trans (HB.out.mono (by simp; omega))).setCell (by simp; omega) _).setCell (by simp) _).setCell (by simp) _

theorem eqRelation_c (va vb : Value) (x y : Int) (a b : List (List Int)) (w : World) (ha : Rows2 w va a) (hb : Rows2 w vb b) :
    Calls Try.prog 14 #[.agg #[.int .i64 x, va], .agg #[.int .i64 y, vb]] w fun e w' => e = .returned (.bool (x == y && a == b)) ∧ Below w.heap.size w w' := by
  have HA := Lib.hid ha
  have HB := Lib.hid hb
  obtain ⟨A, ca, rfl, _, _⟩ := ha.at_
  obtain ⟨B, cb, rfl, _, _⟩ := hb.at_
  clear ha hb
  by_cases hxy : x = y
  · have hn : (x != y) = false := by simpa using hxy
    have hxy' : (x == y) = true := by simpa using hxy
    have HX := Lib.hid hxy'; clear hxy hxy'
    go_enter Try.func14, Try.ntmps14
    go_wp2_with fail
    refine (eqIntSS_c _ _ a b _ (HA.out.keep ((below1 _ _).alloc (by simp) _)) (HB.out.keep ((below1 _ _).alloc (by simp) _))).mono ?_
    rintro e w1 ⟨rfl, hs⟩
    have HS := Lib.hid (((below1 w (.cells #[.int .i64 x, .slice A a.length ca] 27)).alloc (by simp) (.cells #[.int .i64 y, .slice B b.length cb] 27)).trans (hs.below _))
    clear hs
    cases hq : (a == b) with
    | true =>
      have HQ := Lib.hid hq; clear hq
      go_wp2
      go_ret
      exact ⟨ret_bool (by rw [HX.out, HQ.out]; rfl), HS.out⟩
    | false =>
      have HQ := Lib.hid hq; clear hq
      go_wp2
      go_ret
      exact ⟨ret_bool (by rw [HX.out, HQ.out]; rfl), HS.out⟩
  · have hn : (x != y) = true := by simpa using hxy
    have hxy' : (x == y) = false := by simpa using hxy
    have HX := Lib.hid hxy'; clear hxy hxy'
    go_enter Try.func14, Try.ntmps14
    go_wp2
    go_ret
    exact ⟨ret_bool (by rw [HX.out]; rfl), (below1 _ _).alloc (by simp) _⟩


theorem markRelation_c (v : Value) (ar : Int) (vs : List Value) (ll : List (List Int)) (k : Int) (base : Nat) (S : Nat → Prop) (w : World) (ho : w.ownsRow base 24 1 v ll.length vs) (ho2 : Own2 3 w base vs ll)
    (hhi : ∀ u ∈ vs, ∀ g, u.ownBlock = some g → S g) (h0 : 0 ≤ k) (h1 : k + tot2 ll ≤ 1099511627776) (hs : ll.length ≤ 9223372036854775807) :
    Calls Try.prog 17 #[.agg #[.int .i64 ar, v], .int .i64 k] w fun e w' => e = .returned (.int .i64 (k + tot2 ll)) ∧ w'.ownsRow base 24 1 v ll.length vs ∧ Own2 3 w' base vs (marks2 k ll) ∧ FrS S w w' := by
  have HHI := Lib.hid hhi; have HO := Lib.hid ho; have HO2 := Lib.hid ho2
  obtain ⟨A, c, rfl⟩ := OwnRows2.form (t := 3) ⟨vs, ho, ho2⟩
  clear hhi ho ho2
  go_enter Try.func17, Try.ntmps17
  go_wp2_with fail
  refine (markIntSS_c _ vs ll k base S _ (own_keep HO.out (below1 _ _)) (HO2.out.keep (below1 _ _)) HHI.out h0 h1 hs).mono ?_
  rintro e w1 ⟨rfl, ho1, ho2, hf⟩
  have H1 := Lib.hid ho1; have H2 := Lib.hid ho2; have HF := Lib.hid hf
  clear ho1 ho2 hf
  go_wp2
  go_ret
  exact ⟨rfl, H1.out, H2.out, (FrS.below (below1 _ _)).trans HF.out⟩

theorem heldRelation_c (v : Value) (ar : Int) (ll : List (List Int)) (k : Int) (w : World) (ho : Rows2 w v (marks2 k ll)) (h0 : 0 ≤ k) (h1 : k + tot2 ll ≤ 1099511627776) :
    Calls Try.prog 18 #[.agg #[.int .i64 ar, v], .int .i64 k] w fun e w' => e = .returned (.int .i64 (k + tot2 ll)) ∧ Below w.heap.size w w' := by
  have HO := Lib.hid ho
  obtain ⟨A, ca, rfl, _, _⟩ := ho.at_
  clear ho
  go_enter Try.func18, Try.ntmps18
  go_wp2_with fail
  refine (heldIntSS_c _ ll k _ (HO.out.keep (below1 _ _)) h0 h1).mono ?_
  rintro e w1 ⟨rfl, rfl⟩
  have hp : ¬ (k + (tot2 ll : Int) < 0) := by omega
  go_wp2
  go_ret
  exact ⟨rfl, below1 _ _⟩

end Go.Proofs.Ytnijkpbecgifjaa
