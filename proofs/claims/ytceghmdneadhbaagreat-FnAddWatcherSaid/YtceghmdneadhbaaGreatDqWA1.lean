/-
 What is drawn: queries. On the printed functions; conditions: the code's length.
-/
import Derived.Test.YtceghmdneadhbaaGreatDrWA1
import Derived.Test.YtceghmdneadhbaaGreatQuWA1
-- pure
namespace Go.Proofs.YtceghmdneadhbaaGreat
open Go.RowKit
set_option linter.unusedVariables false
set_option linter.unusedSimpArgs false
theorem qry_len {q : Qry} (h : qryB q = true) : 1 <= q.1 ∧ q.1 <= 5 ∧ 1 <= q.2.1.length ∧ q.2.1.length <= 4 ∧ (∀ a ∈ q.2.1,a.1.length <= 4 ∧ 1 <= a.2.length ∧ a.2.length <= 5) ∧ q.2.2.length <= 5 := by
 obtain ⟨h1,h2,h3,h4⟩ := qry_facts h
 unfold qryB at h
 simp only [Bool.and_eq_true,Bool.not_eq_true'] at h
 obtain ⟨g1,g2,g3,g4,-⟩ := h
 have e2 : 1 <= (q.2.1.length : Int) ∧ (q.2.1.length : Int) <= 4 := by unfold btw at g2; simpa using g2
 have e3 := set_few ⟨h1,h2⟩ g3
 refine ⟨h1,h2,by omega,h3,fun a ha => ⟨?_,(h4 a ha).1,(h4 a ha).2.1⟩,by omega⟩
 have h5 := badAny_mem g4 ha
 unfold atomBad at h5
 simp only [Bool.or_eq_false_iff,Bool.not_eq_false'] at h5
 have h6 := h5.1
 unfold nmB at h6
 simp only [Bool.and_eq_true] at h6
 have : 1 <= (a.1.length : Int) ∧ (a.1.length : Int) <= 4 := by have := h6.1; unfold btw at this; simpa using this
 omega
theorem qry_sm {q : Qry} (h : qryB q = true) : smQ q := by
 obtain ⟨h1,h2,h3,h4,h5,h6⟩ := qry_len h
 unfold smQ lim
 exact ⟨by omega,fun a ha => by have := h5 a ha; omega,by omega⟩
def knownL : List (List UInt8) := [[40,88,89,90,41,61,114,40,88,89,41,44,115,40,89,90,41,44,116,40,90,88,41],[40,88,89,90,85,41,61,114,40,88,89,41,44,115,40,89,90,41,44,116,40,90,85,41,44,117,40,85,88,41],[40,88,89,90,41,61,114,40,88,89,41,44,115,40,89,90,41],[40,88,41,61,114,40,88,89,41,44,115,40,89,90,41,44,116,40,90,85,41],[40,88,89,90,41,61,118,40,88,89,90,41,44,114,40,88,89,41],[40,88,89,41,61,114,40,88,89,41,44,114,40,89,88,41],[40,88,89,90,85,41,61,118,40,88,89,90,41,44,115,40,90,85,41,44,116,40,85,88,41],[40,88,41,61,114,40,88,88,41],[40,88,89,41,61,114,40,88,90,41,44,115,40,90,89,41,44,114,40,88,85,41,44,115,40,85,89,41],[40,41,61,114,40,88,89,41,44,115,40,89,88,41],[40,88,89,90,85,86,41,61,114,40,88,89,41,44,115,40,89,90,41,44,116,40,90,85,41,44,117,40,85,86,41]]
def parsed (s : List UInt8) : Bool := match spec_ParseQuery s with
 | some (q,_) => qryB q
 | none => false
theorem known_ok : knownL.all parsed = true := by kernel_rfl
theorem parse_known {s : List UInt8} (h : s ∈ knownL) : ∃ q b,spec_ParseQuery s = some (q,b) ∧ qryB q = true := by
 have := List.all_eq_true.1 known_ok s h
 unfold parsed at this
 cases e : spec_ParseQuery s with
 | none => rw [e] at this; cases this
 | some x => rw [e] at this; exact ⟨x.1,x.2,rfl,this⟩
section
variable {c : Cur}
theorem vars_ok (h : CurOk c) (n : Int) (m : Int × Cur) (h0 : 0 <= m.1) (h1 : m.1 <= 100) (hn : n <= 10) : ∃ o,loopF (spec_l7Query_B2 m) fz (c.1,c.2.1,c.2.2,([] : List Int),n) = some o ∧ CurOk (o.1,o.2.1,o.2.2.1) ∧ o.2.2.2.length <= 10 := by
 exact loop_wh (B := spec_l7Query_B2 m) (fun s => CurOk (s.1,s.2.1,s.2.2.1) ∧ (s.2.2.2.1.length : Int) + max 0 s.2.2.2.2 <= 10 ∧ s.2.2.2.2 <= 10) (fun s => s.2.2.2.2.toNat) (fun o => CurOk (o.1,o.2.1,o.2.2.1) ∧ o.2.2.2.length <= 10) (fun s hs => by
  obtain ⟨b,i,hh,l,k⟩ := s
  obtain ⟨i1,i2,i3⟩ := hs
  simp only at i1 i2 i3
  by_cases h2 : 0 < k
  ·right
   obtain ⟨v,c',e,hv,hc⟩ := below_ok i1 (n := 1 + m.1) (by omega) (by omega)
   refine ⟨(c'.1,c'.2.1,c'.2.2,l ++ [v],k - 1),⟨hc,?_,?_⟩,?_,fun rec => ?_⟩
   ·simp only [List.length_append,List.length_singleton]; omega
   ·simp only; omega
   ·simp only; omega
   ·simp only [spec_l7Query_B2]
    rw [decide_eq_true h2,wrap_in (n := 1 + m.1) ⟨by omega,by omega⟩,e]
    simp only [cond_true,obind]
    rw [chk_pos (by unfold lim; simp only [List.length_singleton]; omega),wrap_in ⟨by omega,by omega⟩]
  ·left
   refine ⟨(b,i,hh,l),⟨i1,by simp only; omega⟩,fun rec => ?_⟩
   simp only [spec_l7Query_B2]
   rw [decide_eq_false h2]; rfl) fz (c.1,c.2.1,c.2.2,([] : List Int),n) ⟨h,by simp only [List.length_nil]; omega,hn⟩ (by unfold fz; simp only; omega)
theorem atoms_ok (h : CurOk c) (n : Int) (m : Int × Cur) (h0 : 0 <= m.1) (h1 : m.1 <= 100) (hn : n <= 10) : ∃ o,loopF (spec_l7Query_B1 m) fz (c.1,c.2.1,c.2.2,([] : List Atm),n) = some o ∧ CurOk (o.1,o.2.1,o.2.2.1) ∧ o.2.2.2.length <= 10 ∧ ∀ a ∈ o.2.2.2,a.1.length <= 10 ∧ a.2.length <= 10 := by
 exact loop_wh (B := spec_l7Query_B1 m) (fun s => CurOk (s.1,s.2.1,s.2.2.1) ∧ (s.2.2.2.1.length : Int) + max 0 s.2.2.2.2 <= 10 ∧ s.2.2.2.2 <= 10 ∧ ∀ a ∈ s.2.2.2.1,a.1.length <= 10 ∧ a.2.length <= 10) (fun s => s.2.2.2.2.toNat) (fun o => CurOk (o.1,o.2.1,o.2.2.1) ∧ o.2.2.2.length <= 10 ∧ ∀ a ∈ o.2.2.2,a.1.length <= 10 ∧ a.2.length <= 10) (fun s hs => by
  obtain ⟨b,i,hh,l,k⟩ := s
  obtain ⟨i1,i2,i3,i4⟩ := hs
  simp only at i1 i2 i3 i4
  by_cases h2 : 0 < k
  ·right
   obtain ⟨v,c',e,hv,hc⟩ := below_ok i1 (n := 5) (by omega) (by omega)
   obtain ⟨nm,hg,hnm⟩ : ∃ nm,geti ([[114],[115],[116],[117],[118]] : List (List UInt8)) v = some nm ∧ nm.length <= 10 := by
    have : v = 0 ∨ v = 1 ∨ v = 2 ∨ v = 3 ∨ v = 4 := by omega
    rcases this with rfl | rfl | rfl | rfl | rfl <;> exact ⟨_,rfl,by simp⟩
   have hdiv : 0 <= Int.tdiv v 4 ∧ Int.tdiv v 4 <= 1 := by
    rw [Int.tdiv_eq_ediv_of_nonneg hv.1]; omega
   obtain ⟨o,e2,ho,hl⟩ := vars_ok hc (2 + Int.tdiv v 4) m h0 h1 (by omega)
   refine ⟨(o.1,o.2.1,o.2.2.1,l ++ [(nm,o.2.2.2)],k - 1),⟨ho,?_,?_,?_⟩,?_,fun rec => ?_⟩
   ·simp only [List.length_append,List.length_singleton]; omega
   ·simp only; omega
   ·intro a ha
    rcases List.mem_append.1 ha with ha | ha
    ·exact i4 a ha
    ·rw [List.mem_singleton] at ha; subst ha; exact ⟨hnm,hl⟩
   ·simp only; omega
   ·simp only [spec_l7Query_B1]
    rw [decide_eq_true h2,e]
    simp only [cond_true,obind,hg]
    rw [wrap_in (n := Int.tdiv v 4) ⟨by omega,by omega⟩,wrap_in (n := 2 + Int.tdiv v 4) ⟨by omega,by omega⟩,e2]
    obtain ⟨o1,o2,o3,o4⟩ := o
    simp only
    rw [chk_pos (by unfold lim; simp only [List.length_singleton]; omega),wrap_in (n := k - 1) ⟨by omega,by omega⟩]
  ·left
   refine ⟨(b,i,hh,l),⟨i1,by simp only; omega,i4⟩,fun rec => ?_⟩
   simp only [spec_l7Query_B1]
   rw [decide_eq_false h2]; rfl) fz (c.1,c.2.1,c.2.2,([] : List Atm),n) ⟨h,by simp only [List.length_nil]; omega,hn,fun a ha => by cases ha⟩ (by unfold fz; simp only; omega)
theorem outs_ok (h : CurOk c) (m : Int × Cur) (h0 : 0 <= m.1) (h1 : m.1 <= 9) : ∃ o,loopF (spec_l7Query_B3 m) fz (c.1,c.2.1,c.2.2,([] : List Int),0) = some o ∧ CurOk (o.1,o.2.1,o.2.2.1) ∧ o.2.2.2.length <= 10 := by
 exact loop_wh (B := spec_l7Query_B3 m) (fun s => CurOk (s.1,s.2.1,s.2.2.1) ∧ 0 <= s.2.2.2.2 ∧ s.2.2.2.2 <= 1 + m.1 ∧ (s.2.2.2.1.length : Int) <= s.2.2.2.2) (fun s => (1 + m.1 - s.2.2.2.2).toNat) (fun o => CurOk (o.1,o.2.1,o.2.2.1) ∧ o.2.2.2.length <= 10) (fun s hs => by
  obtain ⟨b,i,hh,l,k⟩ := s
  obtain ⟨i1,i2,i3,i4⟩ := hs
  simp only at i1 i2 i3 i4
  by_cases h2 : k < 1 + m.1
  ·right
   obtain ⟨w,c',e,_,hc⟩ := once_ok i1 (n := 2) (by omega) (by omega)
   cases w with
   | true =>
    refine ⟨(c'.1,c'.2.1,c'.2.2,[k] ++ l,k + 1),⟨hc,?_,?_,?_⟩,?_,fun rec => ?_⟩
    ·simp only; omega
    ·simp only; omega
    ·simp only [List.length_append,List.length_singleton]; omega
    ·simp only; omega
    ·simp only [spec_l7Query_B3]
     rw [wrap_in (n := 1 + m.1) ⟨by omega,by omega⟩,decide_eq_true h2,e]
     simp only [cond_true,obind]
     rw [chk_pos (by unfold lim; simp only [List.length_singleton]; omega)]
     unfold spec_l7Query_J4
     rw [wrap_in (n := k + 1) ⟨by omega,by omega⟩]
   | false =>
    refine ⟨(c'.1,c'.2.1,c'.2.2,l,k + 1),⟨hc,?_,?_,?_⟩,?_,fun rec => ?_⟩
    ·simp only; omega
    ·simp only; omega
    ·simp only; omega
    ·simp only; omega
    ·simp only [spec_l7Query_B3]
     rw [wrap_in (n := 1 + m.1) ⟨by omega,by omega⟩,decide_eq_true h2,e]
     simp only [cond_true,cond_false,obind]
     unfold spec_l7Query_J4
     rw [wrap_in (n := k + 1) ⟨by omega,by omega⟩]
  ·left
   refine ⟨(b,i,hh,l),⟨i1,by simp only; omega⟩,fun rec => ?_⟩
   simp only [spec_l7Query_B3]
   rw [wrap_in (n := 1 + m.1) ⟨by omega,by omega⟩,decide_eq_false h2]; rfl) fz (c.1,c.2.1,c.2.2,([] : List Int),0) ⟨h,by simp,by simp only; omega,by simp⟩ (by unfold fz; simp only; omega)
theorem qry_ok (h : CurOk c) : Dr (spec_l7Query c) fun q => qryB q = true := by
 unfold spec_l7Query
 obtain ⟨s,c1,e1,hs,hc1⟩ := pick_ok h (l := knownL) (by simp [knownL]) (by simp [knownL])
 unfold knownL at e1
 rw [e1]
 simp only [obind]
 obtain ⟨q,b,e2,hq⟩ := parse_known hs
 rw [e2]
 simp only
 obtain ⟨w,c2,e3,_,hc2⟩ := once_ok hc1 (n := 3) (by omega) (by omega)
 rw [e3]
 simp only
 cases w with
 | false => exact ⟨_,_,rfl,hq,hc2⟩
 | true =>
  simp only [Bool.not_true,cond_false]
  obtain ⟨n,c3,e4,hn,hc3⟩ := below_ok hc2 (n := 4) (by omega) (by omega)
  rw [e4]
  simp only
  obtain ⟨m,c4,e5,hm,hc4⟩ := below_ok hc3 (n := 4) (by omega) (by omega)
  rw [e5]
  simp only
  rw [wrap_in (n := 1 + m) ⟨by omega,by omega⟩,wrap_in (n := 1 + n) ⟨by omega,by omega⟩]
  obtain ⟨o,e6,ho,hl,ha⟩ := atoms_ok hc4 (1 + m) (n,c3) (by simp only; omega) (by simp only; omega) (by omega)
  rw [e6]
  obtain ⟨o1,o2,o3,o4⟩ := o
  simp only at ho hl ha ⊢
  obtain ⟨p,e7,hp,hl2⟩ := outs_ok ho (n,c3) (by simp only; omega) (by simp only; omega)
  simp only at e7
  rw [e7]
  obtain ⟨p1,p2,p3,p4⟩ := p
  simp only at hp hl2 ⊢
  rw [s_query (q := (1 + n,o4,p4)) ⟨by unfold lim; simp only; omega,fun a h => by have := ha a h; unfold lim; omega,by unfold lim; simp only; omega⟩]
  simp only
  cases hv : qryB (1 + n,o4,p4) with
  | false => exact ⟨_,_,rfl,hq,hp⟩
  | true => exact ⟨_,_,rfl,hv,hp⟩
def AnyQ (q : Qry) : Prop := 0 <= q.1 ∧ q.1 <= 6 ∧ 1 <= q.2.1.length ∧ q.2.1.length <= 5 ∧ (∀ a ∈ q.2.1,a.1.length <= 4 ∧ a.2.length <= 5) ∧ q.2.2.length <= 6
theorem AnyQ.sm {q : Qry} (h : AnyQ q) : smQ q := by
 obtain ⟨h1,h2,h3,h4,h5,h6⟩ := h
 unfold smQ lim
 exact ⟨by omega,fun a ha => by have := h5 a ha; omega,by omega⟩
theorem qany_ok (h : CurOk c) : Dr (spec_l7Any c) fun q => AnyQ q := by
 unfold spec_l7Any
 obtain ⟨q,c1,e1,hq,hc1⟩ := qry_ok h
 obtain ⟨h1,h2,h3,h4,h5,h6⟩ := qry_len hq
 have h5' : ∀ a ∈ q.2.1,a.1.length <= 4 ∧ a.2.length <= 5 := fun a ha => ⟨(h5 a ha).1,(h5 a ha).2.2⟩
 rw [e1]
 simp only [obind]
 obtain ⟨w,c2,e2,_,hc2⟩ := below_ok hc1 (n := 14) (by omega) (by omega)
 rw [e2]
 simp only
 have g0 : geti q.2.1 0 = some (q.2.1[0]'(by omega)) := geti_at (k := 0) (by omega)
 have m0 := h5 _ (List.getElem_mem (by omega : 0 < q.2.1.length))
 cases (w == 0) with
 | true =>
  simp only [cond_true]
  rw [wrap_in ⟨by omega,by omega⟩]
  obtain ⟨x,c3,e3,hx,hc3⟩ := pickI_ok hc2 (l := [0,6,q.1 + 1]) (by simp) (by simp)
  have hx' : 0 <= x ∧ x <= 6 := by simp at hx; omega
  rw [e3]
  exact ⟨_,_,rfl,⟨hx'.1,hx'.2,h3,by simp only; omega,h5',by simp only; omega⟩,hc3⟩
 | false =>
  simp only [cond_false]
  cases (w == 1) with
  | true =>
   simp only [cond_true]
   obtain ⟨x,c3,e3,hx,hc3⟩ := pick_ok hc2 (l := [[],[119],[114]]) (by simp) (by simp)
   have hx' : x.length <= 4 := by simp at hx; rcases hx with rfl | rfl | rfl <;> simp
   rw [e3]
   simp only
   rw [chk_pos (by unfold lim; simp only [List.length_singleton]; omega)]
   refine ⟨_,_,rfl,⟨by simp only; omega,by simp only; omega,by simp only [List.length_append,List.length_singleton]; omega,by simp only [List.length_append,List.length_singleton]; omega,fun a ha => ?_,by simp only; omega⟩,hc3⟩
   rcases List.mem_append.1 ha with ha | ha
   ·exact h5' a ha
   ·rw [List.mem_singleton] at ha; subst ha; exact ⟨hx',by simp⟩
  | false =>
   simp only [cond_false]
   cases (w == 2) with
   | true =>
    simp only [cond_true]
    obtain ⟨x,c3,e3,hx,hc3⟩ := below_ok hc2 (n := 6) (by omega) (by omega)
    rw [e3]
    simp only
    rw [chk_pos (by unfold lim; simp only [List.length_singleton]; omega)]
    exact ⟨_,_,rfl,⟨by simp only; omega,by simp only; omega,by simp only; omega,by simp only; omega,h5',by simp only [List.length_append,List.length_singleton]; omega⟩,hc3⟩
   | false =>
    simp only [cond_false]
    cases (w == 3) with
    | true =>
     simp only [cond_true]
     rw [chk_pos (by omega),g0]
     refine ⟨_,_,rfl,⟨by simp only; omega,by simp only; omega,by unfold seti; simp only [List.length_set]; omega,by unfold seti; simp only [List.length_set]; omega,fun a ha => ?_,by simp only; omega⟩,hc2⟩
     unfold seti at ha
     rcases List.mem_or_eq_of_mem_set ha with h7 | rfl
     ·exact h5' a h7
     ·exact ⟨m0.1,by simp⟩
    | false =>
     simp only [cond_false]
     cases (w == 4) with
     | true =>
      simp only [cond_true]
      rw [chk_pos (by omega),g0]
      simp only
      rw [chk_pos (by omega)]
      obtain ⟨x,c3,e3,hx,hc3⟩ := pickI_ok hc2 (l := [-1,5]) (by simp) (by simp)
      rw [e3]
      have g1 : geti (q.2.1[0]'(by omega)).2 0 = some ((q.2.1[0]'(by omega)).2[0]'(by omega)) := geti_at (k := 0) (by omega)
      simp only [g1]
      refine ⟨_,_,rfl,⟨by simp only; omega,by simp only; omega,by unfold seti; simp only [List.length_set]; omega,by unfold seti; simp only [List.length_set]; omega,fun a ha => ?_,by simp only; omega⟩,hc3⟩
      unfold seti at ha
      rcases List.mem_or_eq_of_mem_set ha with h7 | rfl
      ·exact h5' a h7
      ·exact ⟨m0.1,by simp only [List.length_set]; omega⟩
     | false => exact ⟨_,_,rfl,⟨by simp only; omega,by simp only; omega,by simp only; omega,by simp only; omega,h5',by simp only; omega⟩,hc2⟩
end
end Go.Proofs.YtceghmdneadhbaaGreat
