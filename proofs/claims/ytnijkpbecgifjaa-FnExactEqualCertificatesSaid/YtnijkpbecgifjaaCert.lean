/-
  Contracts of EqualCertificates, of the reference and of the program. Conditions: the arguments read as such data.
-/
import Derived.Test.YtnijkpbecgifjaaTyCertificate
namespace Go.Proofs.Ytnijkpbecgifjaa
open Go.RowKit

def eqCert (x1 : List Int) (x2 : List (Int × Int)) (x3 : List Int) (x4 x5 : Int) (y1 : List Int) (y2 : List (Int × Int)) (y3 : List Int) (y4 y5 : Int) : Bool := x1 == y1 && x2 == y2 && x3 == y3 && x4 == y4 && x5 == y5
theorem cmpL_beq (a b : List Int) : (cmpL a b == 0) = (a == b) := by
  by_cases h : a = b
  · rw [beq_iff_eq.2 (cmpL_eq.2 h), beq_iff_eq.2 h]
  · rw [beq_eq_false_iff_ne.2 (fun e => h (cmpL_eq.1 e)), beq_eq_false_iff_ne.2 h]
set_option maxHeartbeats 1000000 in
theorem specEqualCertificates_c {w : World} {x4 x5 y4 y5 : Int} {u1 u2 u3 v1 v2 v3 : Value} {x1 y1 x3 y3 : List Int} {x2 y2 : List (Int × Int)} (ha : Rd_Certificate w u1 x1 u2 x2 u3 x3) (hb : Rd_Certificate w v1 y1 v2 y2 v3 y3) :
    Calls Try.prog 20 #[.agg #[u1, u2, u3, .int .i64 x4, .int .i64 x5], .agg #[v1, v2, v3, .int .i64 y4, .int .i64 y5]] w fun e w' => e = .returned (.bool (eqCert x1 x2 x3 x4 x5 y1 y2 y3 y4 y5)) ∧ Below w.heap.size w w' := by
  obtain ⟨a1, a2, a3⟩ := ha
  obtain ⟨b1, b2, b3⟩ := hb
  have Ra1 := Lib.hid a1
  obtain ⟨Aa1, Ca1, rfl⟩ := a1.form
  have Ra2 := Lib.hid a2
  obtain ⟨Aa2, Ca2, rfl⟩ := a2.form
  have Ra3 := Lib.hid a3
  obtain ⟨Aa3, Ca3, rfl⟩ := a3.form
  have Rb1 := Lib.hid b1
  obtain ⟨Ab1, Cb1, rfl⟩ := b1.form
  have Rb2 := Lib.hid b2
  obtain ⟨Ab2, Cb2, rfl⟩ := b2.form
  have Rb3 := Lib.hid b3
  obtain ⟨Ab3, Cb3, rfl⟩ := b3.form
  clear a1 a2 a3 b1 b2 b3
  go_enter Try.func20, Try.ntmps20
  go_wp2_with fail
  refine (specCompareRows_c _ _ x1 y1 _ (Ra1.out.keep (below2 _ _ _)) (Rb1.out.keep (below2 _ _ _))).mono ?_
  rintro e w1 ⟨rfl, hs⟩
  have hb := hs.below
  replace hb := hb (World.heap ((w.alloc (.cells #[.slice Aa1 x1.length Ca1, .slice Aa2 x2.length Ca2, .slice Aa3 x3.length Ca3, .int .i64 x4, .int .i64 x5] 43)).alloc (.cells #[.slice Ab1 y1.length Cb1, .slice Ab2 y2.length Cb2, .slice Ab3 y3.length Cb3, .int .i64 y4, .int .i64 y5] 43))).size
  have hz : w.heap.size + 1 < w1.heap.size := by have := hb.size; simp only [World.size_alloc] at this; omega
  have ca : ∀ j, w1.cell? ⟨w.heap.size, j, none⟩ = (#[.slice Aa1 x1.length Ca1, .slice Aa2 x2.length Ca2, .slice Aa3 x3.length Ca3, .int .i64 x4, .int .i64 x5] : Array Value)[j]? := fun j => (hb.cell (p := ⟨w.heap.size, j, none⟩) (by simp; omega)).trans (((below1 _ _).cell (p := ⟨w.heap.size, j, none⟩) (by simp)).trans (cell_new _ _ _ _))
  have cb : ∀ j, w1.cell? ⟨w.heap.size + 1, j, none⟩ = (#[.slice Ab1 y1.length Cb1, .slice Ab2 y2.length Cb2, .slice Ab3 y3.length Cb3, .int .i64 y4, .int .i64 y5] : Array Value)[j]? := fun j => (hb.cell (p := ⟨w.heap.size + 1, j, none⟩) (by simp)).trans (cell_at _ _ _ _ (by simp))
  have ST := Lib.hid ((below2 _ _ _).trans (hb.mono (by simp; omega)))
  clear hb hs
  by_cases h : (cmpL x1 y1 == 0) = false
  · have H := Lib.hid (show (x1 == y1) = false by rw [← cmpL_beq]; exact h)
    go_wp2
    go_ret
    exact ⟨ret_bool (by simp [eqCert, H.out]), ST.out⟩
  have hq1 : (cmpL x1 y1 == 0) = true := by simpa using h
  have H1 := Lib.hid (show (x1 == y1) = true by rw [← cmpL_beq]; exact hq1)
  clear h
  go_wp2_with fail
  refine (specEqualRationals_c _ _ x2 y2 _ (Ra2.out.keep ST.out) (Rb2.out.keep ST.out)).mono ?_
  rintro e w2 ⟨rfl, hs⟩
  have hb := hs.below
  replace hb := hb w1.heap.size
  replace ca : ∀ j, w2.cell? ⟨w.heap.size, j, none⟩ = (#[.slice Aa1 x1.length Ca1, .slice Aa2 x2.length Ca2, .slice Aa3 x3.length Ca3, .int .i64 x4, .int .i64 x5] : Array Value)[j]? := fun j => (hb.cell (p := ⟨w.heap.size, j, none⟩) (show w.heap.size < _ by omega)).trans (ca j)
  replace cb : ∀ j, w2.cell? ⟨w.heap.size + 1, j, none⟩ = (#[.slice Ab1 y1.length Cb1, .slice Ab2 y2.length Cb2, .slice Ab3 y3.length Cb3, .int .i64 y4, .int .i64 y5] : Array Value)[j]? := fun j => (hb.cell (p := ⟨w.heap.size + 1, j, none⟩) hz).trans (cb j)
  replace hz : w.heap.size + 1 < w2.heap.size := Nat.lt_of_lt_of_le hz hb.size
  replace ST := Lib.hid (ST.out.trans (hb.mono ST.out.size))
  clear hb hs
  by_cases h : (x2 == y2) = false
  · rw [h]
    have H := Lib.hid h; clear h
    go_wp2
    go_ret
    exact ⟨ret_bool (by simp [eqCert, H.out]), ST.out⟩
  have H2 := Lib.hid (show (x2 == y2) = true by simpa using h)
  rw [H2.out]
  clear h
  go_wp2_with fail
  refine (specCompareRows_c _ _ x3 y3 _ (Ra3.out.keep ST.out) (Rb3.out.keep ST.out)).mono ?_
  rintro e w3 ⟨rfl, hs⟩
  have hb := hs.below
  replace hb := hb w2.heap.size
  replace ca : ∀ j, w3.cell? ⟨w.heap.size, j, none⟩ = (#[.slice Aa1 x1.length Ca1, .slice Aa2 x2.length Ca2, .slice Aa3 x3.length Ca3, .int .i64 x4, .int .i64 x5] : Array Value)[j]? := fun j => (hb.cell (p := ⟨w.heap.size, j, none⟩) (show w.heap.size < _ by omega)).trans (ca j)
  replace cb : ∀ j, w3.cell? ⟨w.heap.size + 1, j, none⟩ = (#[.slice Ab1 y1.length Cb1, .slice Ab2 y2.length Cb2, .slice Ab3 y3.length Cb3, .int .i64 y4, .int .i64 y5] : Array Value)[j]? := fun j => (hb.cell (p := ⟨w.heap.size + 1, j, none⟩) hz).trans (cb j)
  replace hz : w.heap.size + 1 < w3.heap.size := Nat.lt_of_lt_of_le hz hb.size
  replace ST := Lib.hid (ST.out.trans (hb.mono ST.out.size))
  clear hb hs
  by_cases h : (cmpL x3 y3 == 0) = false
  · have H := Lib.hid (show (x3 == y3) = false by rw [← cmpL_beq]; exact h)
    go_wp2
    go_ret
    exact ⟨ret_bool (by simp [eqCert, H.out]), ST.out⟩
  have hq3 : (cmpL x3 y3 == 0) = true := by simpa using h
  have H3 := Lib.hid (show (x3 == y3) = true by rw [← cmpL_beq]; exact hq3)
  clear h
  by_cases h : (x4 == y4) = false
  · have H := Lib.hid h
    go_wp2
    go_ret
    exact ⟨ret_bool (by simp [eqCert, H.out]), ST.out⟩
  have H4 := Lib.hid (show (x4 == y4) = true by simpa using h)
  have h4 := H4.out
  clear h
  go_wp2
  go_ret
  exact ⟨ret_bool (by simp only [eqCert, H1.out, H2.out, H3.out, H4.out, Bool.true_and]), ST.out⟩

set_option maxHeartbeats 1000000 in
theorem implEqualCertificates_c {w : World} {x4 x5 y4 y5 : Int} {u1 u2 u3 v1 v2 v3 : Value} {x1 y1 x3 y3 : List Int} {x2 y2 : List (Int × Int)} (ha : Rd_Certificate w u1 x1 u2 x2 u3 x3) (hb : Rd_Certificate w v1 y1 v2 y2 v3 y3) :
    Calls Try.prog 22 #[.agg #[u1, u2, u3, .int .i64 x4, .int .i64 x5], .agg #[v1, v2, v3, .int .i64 y4, .int .i64 y5]] w fun e w' => e = .returned (.bool (eqCert x1 x2 x3 x4 x5 y1 y2 y3 y4 y5)) ∧ Below w.heap.size w w' := by
  obtain ⟨a1, a2, a3⟩ := ha
  obtain ⟨b1, b2, b3⟩ := hb
  have Ra1 := Lib.hid a1
  obtain ⟨Aa1, Ca1, rfl⟩ := a1.form
  have Ra2 := Lib.hid a2
  obtain ⟨Aa2, Ca2, rfl⟩ := a2.form
  have Ra3 := Lib.hid a3
  obtain ⟨Aa3, Ca3, rfl⟩ := a3.form
  have Rb1 := Lib.hid b1
  obtain ⟨Ab1, Cb1, rfl⟩ := b1.form
  have Rb2 := Lib.hid b2
  obtain ⟨Ab2, Cb2, rfl⟩ := b2.form
  have Rb3 := Lib.hid b3
  obtain ⟨Ab3, Cb3, rfl⟩ := b3.form
  clear a1 a2 a3 b1 b2 b3
  go_enter Try.func22, Try.ntmps22
  go_wp2_with fail
  refine (sameInts_c _ _ x1 y1 _ (Ra1.out.keep (below2 _ _ _)) (Rb1.out.keep (below2 _ _ _))).mono ?_
  rintro e w1 ⟨rfl, hs⟩
  have hb := hs.below
  replace hb := hb (World.heap ((w.alloc (.cells #[.slice Aa1 x1.length Ca1, .slice Aa2 x2.length Ca2, .slice Aa3 x3.length Ca3, .int .i64 x4, .int .i64 x5] 43)).alloc (.cells #[.slice Ab1 y1.length Cb1, .slice Ab2 y2.length Cb2, .slice Ab3 y3.length Cb3, .int .i64 y4, .int .i64 y5] 43))).size
  have hz : w.heap.size + 1 < w1.heap.size := by have := hb.size; simp only [World.size_alloc] at this; omega
  have ca : ∀ j, w1.cell? ⟨w.heap.size, j, none⟩ = (#[.slice Aa1 x1.length Ca1, .slice Aa2 x2.length Ca2, .slice Aa3 x3.length Ca3, .int .i64 x4, .int .i64 x5] : Array Value)[j]? := fun j => (hb.cell (p := ⟨w.heap.size, j, none⟩) (by simp; omega)).trans (((below1 _ _).cell (p := ⟨w.heap.size, j, none⟩) (by simp)).trans (cell_new _ _ _ _))
  have cb : ∀ j, w1.cell? ⟨w.heap.size + 1, j, none⟩ = (#[.slice Ab1 y1.length Cb1, .slice Ab2 y2.length Cb2, .slice Ab3 y3.length Cb3, .int .i64 y4, .int .i64 y5] : Array Value)[j]? := fun j => (hb.cell (p := ⟨w.heap.size + 1, j, none⟩) (by simp)).trans (cell_at _ _ _ _ (by simp))
  have ST := Lib.hid ((below2 _ _ _).trans (hb.mono (by simp; omega)))
  clear hb hs
  by_cases h : (x1 == y1) = false
  · rw [h]
    have H := Lib.hid h; clear h
    go_wp2
    go_ret
    exact ⟨ret_bool (by simp [eqCert, H.out]), ST.out⟩
  have H1 := Lib.hid (show (x1 == y1) = true by simpa using h)
  rw [H1.out]
  clear h
  go_wp2_with fail
  refine (implEqualRationals_c _ _ x2 y2 _ (Ra2.out.keep ST.out) (Rb2.out.keep ST.out)).mono ?_
  rintro e w2 ⟨rfl, hs⟩
  have hb := hs.below
  replace hb := hb w1.heap.size
  replace ca : ∀ j, w2.cell? ⟨w.heap.size, j, none⟩ = (#[.slice Aa1 x1.length Ca1, .slice Aa2 x2.length Ca2, .slice Aa3 x3.length Ca3, .int .i64 x4, .int .i64 x5] : Array Value)[j]? := fun j => (hb.cell (p := ⟨w.heap.size, j, none⟩) (show w.heap.size < _ by omega)).trans (ca j)
  replace cb : ∀ j, w2.cell? ⟨w.heap.size + 1, j, none⟩ = (#[.slice Ab1 y1.length Cb1, .slice Ab2 y2.length Cb2, .slice Ab3 y3.length Cb3, .int .i64 y4, .int .i64 y5] : Array Value)[j]? := fun j => (hb.cell (p := ⟨w.heap.size + 1, j, none⟩) hz).trans (cb j)
  replace hz : w.heap.size + 1 < w2.heap.size := Nat.lt_of_lt_of_le hz hb.size
  replace ST := Lib.hid (ST.out.trans (hb.mono ST.out.size))
  clear hb hs
  by_cases h : (x2 == y2) = false
  · rw [h]
    have H := Lib.hid h; clear h
    go_wp2
    go_ret
    exact ⟨ret_bool (by simp [eqCert, H.out]), ST.out⟩
  have H2 := Lib.hid (show (x2 == y2) = true by simpa using h)
  rw [H2.out]
  clear h
  go_wp2_with fail
  refine (sameInts_c _ _ x3 y3 _ (Ra3.out.keep ST.out) (Rb3.out.keep ST.out)).mono ?_
  rintro e w3 ⟨rfl, hs⟩
  have hb := hs.below
  replace hb := hb w2.heap.size
  replace ca : ∀ j, w3.cell? ⟨w.heap.size, j, none⟩ = (#[.slice Aa1 x1.length Ca1, .slice Aa2 x2.length Ca2, .slice Aa3 x3.length Ca3, .int .i64 x4, .int .i64 x5] : Array Value)[j]? := fun j => (hb.cell (p := ⟨w.heap.size, j, none⟩) (show w.heap.size < _ by omega)).trans (ca j)
  replace cb : ∀ j, w3.cell? ⟨w.heap.size + 1, j, none⟩ = (#[.slice Ab1 y1.length Cb1, .slice Ab2 y2.length Cb2, .slice Ab3 y3.length Cb3, .int .i64 y4, .int .i64 y5] : Array Value)[j]? := fun j => (hb.cell (p := ⟨w.heap.size + 1, j, none⟩) hz).trans (cb j)
  replace hz : w.heap.size + 1 < w3.heap.size := Nat.lt_of_lt_of_le hz hb.size
  replace ST := Lib.hid (ST.out.trans (hb.mono ST.out.size))
  clear hb hs
  by_cases h : (x3 == y3) = false
  · rw [h]
    have H := Lib.hid h; clear h
    go_wp2
    go_ret
    exact ⟨ret_bool (by simp [eqCert, H.out]), ST.out⟩
  have H3 := Lib.hid (show (x3 == y3) = true by simpa using h)
  rw [H3.out]
  clear h
  by_cases h : (x4 == y4) = false
  · have H := Lib.hid h
    go_wp2
    go_ret
    exact ⟨ret_bool (by simp [eqCert, H.out]), ST.out⟩
  have H4 := Lib.hid (show (x4 == y4) = true by simpa using h)
  have h4 := H4.out
  clear h
  go_wp2
  go_ret
  exact ⟨ret_bool (by simp only [eqCert, H1.out, H2.out, H3.out, H4.out, Bool.true_and]), ST.out⟩

end Go.Proofs.Ytnijkpbecgifjaa
