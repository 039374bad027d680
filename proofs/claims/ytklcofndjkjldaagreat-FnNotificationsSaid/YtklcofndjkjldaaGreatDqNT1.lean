/-
 What is drawn: queries. On the printed functions; conditions: the code's length.
-/
import Derived.Test.YtklcofndjkjldaaGreatDrNT1
import Derived.Test.YtklcofndjkjldaaGreatQuNT1
namespace Go.Proofs.YtklcofndjkjldaaGreat
open Go.RowKit
set_option linter.unusedVariables false
set_option linter.unusedSimpArgs false
theorem Y6 {q : Qry} (h : Oc q = true) : 1 <= q.1 ∧ q.1 <= 5 ∧ 1 <= q.2.1.length ∧ q.2.1.length <= 4 ∧ (∀ a ∈ q.2.1,a.1.length <= 4 ∧ 1 <= a.2.length ∧ a.2.length <= 5) ∧ q.2.2.length <= 5:=by
 obtain ⟨h1,h2,h3,h4⟩:=Hv h
 unfold Oc at h
 simp only [Bool.and_eq_true,Bool.not_eq_true'] at h
 obtain ⟨g1,g2,g3,g4,-⟩:=h
 have e2 : 1 <= (q.2.1.length : Int) ∧ (q.2.1.length : Int) <= 4:=by unfold btw at g2; simpa using g2
 have e3:=Vg ⟨h1,h2⟩ g3
 refine ⟨h1,h2,by omega,h3,fun a ha => ⟨?_,(h4 a ha).1,(h4 a ha).2.1⟩,by omega⟩
 have h5:=HN g4 ha
 unfold IN at h5
 simp only [Bool.or_eq_false_iff,Bool.not_eq_false'] at h5
 have h6:=h5.1
 unfold nmB at h6
 simp only [Bool.and_eq_true] at h6
 have : 1 <= (a.1.length : Int) ∧ (a.1.length : Int) <= 4:=by have:=h6.1; unfold btw at this; simpa using this
 omega
theorem bU {q : Qry} (h : Oc q = true) : smQ q:=by
 obtain ⟨h1,h2,h3,h4,h5,h6⟩:=Y6 h
 unfold smQ lim
 exact ⟨by omega,fun a ha => by have:=h5 a ha; omega,by omega⟩
def OM : List (List UInt8):=[[40,88,89,90,41,61,114,40,88,89,41,44,115,40,89,90,41,44,116,40,90,88,41],[40,88,89,90,85,41,61,114,40,88,89,41,44,115,40,89,90,41,44,116,40,90,85,41,44,117,40,85,88,41],[40,88,89,90,41,61,114,40,88,89,41,44,115,40,89,90,41],[40,88,41,61,114,40,88,89,41,44,115,40,89,90,41,44,116,40,90,85,41],[40,88,89,90,41,61,118,40,88,89,90,41,44,114,40,88,89,41],[40,88,89,41,61,114,40,88,89,41,44,114,40,89,88,41],[40,88,89,90,85,41,61,118,40,88,89,90,41,44,115,40,90,85,41,44,116,40,85,88,41],[40,88,41,61,114,40,88,88,41],[40,88,89,41,61,114,40,88,90,41,44,115,40,90,89,41,44,114,40,88,85,41,44,115,40,85,89,41],[40,41,61,114,40,88,89,41,44,115,40,89,88,41],[40,88,89,90,85,86,41,61,114,40,88,89,41,44,115,40,89,90,41,44,116,40,90,85,41,44,117,40,85,86,41]]
def parsed (s : List UInt8) : Bool:=match Fb s with
 | some (q,_) => Oc q
 | none => false
theorem Wc : OM.all parsed = true:=by kernel_rfl
theorem Rr {s : List UInt8} (h : s ∈ OM) : ∃ q b,Fb s = some (q,b) ∧ Oc q = true:=by
 have:=List.all_eq_true.1 Wc s h
 unfold parsed at this
 cases e : Fb s with
 | none => rw [e] at this; cases this
 | some x => rw [e] at this; exact ⟨x.1,x.2,rfl,this⟩
section
variable {c : Cur}
theorem Zw (h : Ec c) (n : Int) (m : Int × Cur) (h0 : 0 <= m.1) (h1 : m.1 <= 100) (hn : n <= 10) : ∃ o,Al (Fe m) fz (c.1,c.2.1,c.2.2,([] : List Int),n) = some o ∧ Ec (o.1,o.2.1,o.2.2.1) ∧ o.2.2.2.length <= 10:=by
 exact F0 (B:=Fe m) (fun s => Ec (s.1,s.2.1,s.2.2.1) ∧ (s.2.2.2.1.length : Int) + max 0 s.2.2.2.2 <= 10 ∧ s.2.2.2.2 <= 10) (fun s => s.2.2.2.2.toNat) (fun o => Ec (o.1,o.2.1,o.2.2.1) ∧ o.2.2.2.length <= 10) (fun s hs => by
  obtain ⟨b,i,hh,l,k⟩:=s
  obtain ⟨i1,i2,i3⟩:=hs
  simp only at i1 i2 i3
  by_cases h2 : 0 < k
  ·right
   obtain ⟨v,c',e,hv,hc⟩:=ES i1 (n:=1 + m.1) (by omega) (by omega)
   refine ⟨(c'.1,c'.2.1,c'.2.2,l ++ [v],k - 1),⟨hc,?_,?_⟩,?_,fun rec => ?_⟩
   ·simp only [List.length_append,List.length_singleton]; omega
   ·simp only; omega
   ·simp only; omega
   ·simp only [Fe]
    rw [decide_eq_true h2,wrap_in (n:=1 + m.1) ⟨by omega,by omega⟩,e]
    simp only [cond_true,Ad]
    rw [Ak (by unfold lim; simp only [List.length_singleton]; omega),wrap_in ⟨by omega,by omega⟩]
  ·left
   refine ⟨(b,i,hh,l),⟨i1,by simp only; omega⟩,fun rec => ?_⟩
   simp only [Fe]
   rw [decide_eq_false h2]; rfl) fz (c.1,c.2.1,c.2.2,([] : List Int),n) ⟨h,by simp only [List.length_nil]; omega,hn⟩ (by unfold fz; simp only; omega)
theorem VI (h : Ec c) (n : Int) (m : Int × Cur) (h0 : 0 <= m.1) (h1 : m.1 <= 100) (hn : n <= 10) : ∃ o,Al (Fd m) fz (c.1,c.2.1,c.2.2,([] : List Atm),n) = some o ∧ Ec (o.1,o.2.1,o.2.2.1) ∧ o.2.2.2.length <= 10 ∧ ∀ a ∈ o.2.2.2,a.1.length <= 10 ∧ a.2.length <= 10:=by
 exact F0 (B:=Fd m) (fun s => Ec (s.1,s.2.1,s.2.2.1) ∧ (s.2.2.2.1.length : Int) + max 0 s.2.2.2.2 <= 10 ∧ s.2.2.2.2 <= 10 ∧ ∀ a ∈ s.2.2.2.1,a.1.length <= 10 ∧ a.2.length <= 10) (fun s => s.2.2.2.2.toNat) (fun o => Ec (o.1,o.2.1,o.2.2.1) ∧ o.2.2.2.length <= 10 ∧ ∀ a ∈ o.2.2.2,a.1.length <= 10 ∧ a.2.length <= 10) (fun s hs => by
  obtain ⟨b,i,hh,l,k⟩:=s
  obtain ⟨i1,i2,i3,i4⟩:=hs
  simp only at i1 i2 i3 i4
  by_cases h2 : 0 < k
  ·right
   obtain ⟨v,c',e,hv,hc⟩:=ES i1 (n:=5) (by omega) (by omega)
   obtain ⟨nm,hg,hnm⟩ : ∃ nm,AK ([[114],[115],[116],[117],[118]] : List (List UInt8)) v = some nm ∧ nm.length <= 10:=by
    have : v = 0 ∨ v = 1 ∨ v = 2 ∨ v = 3 ∨ v = 4:=by omega
    rcases this with rfl | rfl | rfl | rfl | rfl <;> exact ⟨_,rfl,by simp⟩
   have hdiv : 0 <= Int.tdiv v 4 ∧ Int.tdiv v 4 <= 1:=by
    rw [Int.tdiv_eq_ediv_of_nonneg hv.1]; omega
   obtain ⟨o,e2,ho,hl⟩:=Zw hc (2 + Int.tdiv v 4) m h0 h1 (by omega)
   refine ⟨(o.1,o.2.1,o.2.2.1,l ++ [(nm,o.2.2.2)],k - 1),⟨ho,?_,?_,?_⟩,?_,fun rec => ?_⟩
   ·simp only [List.length_append,List.length_singleton]; omega
   ·simp only; omega
   ·intro a ha
    rcases List.mem_append.1 ha with ha | ha
    ·exact i4 a ha
    ·rw [List.mem_singleton] at ha; subst ha; exact ⟨hnm,hl⟩
   ·simp only; omega
   ·simp only [Fd]
    rw [decide_eq_true h2,e]
    simp only [cond_true,Ad,hg]
    rw [wrap_in (n:=Int.tdiv v 4) ⟨by omega,by omega⟩,wrap_in (n:=2 + Int.tdiv v 4) ⟨by omega,by omega⟩,e2]
    obtain ⟨o1,o2,o3,o4⟩:=o
    simp only
    rw [Ak (by unfold lim; simp only [List.length_singleton]; omega),wrap_in (n:=k - 1) ⟨by omega,by omega⟩]
  ·left
   refine ⟨(b,i,hh,l),⟨i1,by simp only; omega,i4⟩,fun rec => ?_⟩
   simp only [Fd]
   rw [decide_eq_false h2]; rfl) fz (c.1,c.2.1,c.2.2,([] : List Atm),n) ⟨h,by simp only [List.length_nil]; omega,hn,fun a ha => by cases ha⟩ (by unfold fz; simp only; omega)
theorem YU (h : Ec c) (m : Int × Cur) (h0 : 0 <= m.1) (h1 : m.1 <= 9) : ∃ o,Al (C9 m) fz (c.1,c.2.1,c.2.2,([] : List Int),0) = some o ∧ Ec (o.1,o.2.1,o.2.2.1) ∧ o.2.2.2.length <= 10:=by
 exact F0 (B:=C9 m) (fun s => Ec (s.1,s.2.1,s.2.2.1) ∧ 0 <= s.2.2.2.2 ∧ s.2.2.2.2 <= 1 + m.1 ∧ (s.2.2.2.1.length : Int) <= s.2.2.2.2) (fun s => (1 + m.1 - s.2.2.2.2).toNat) (fun o => Ec (o.1,o.2.1,o.2.2.1) ∧ o.2.2.2.length <= 10) (fun s hs => by
  obtain ⟨b,i,hh,l,k⟩:=s
  obtain ⟨i1,i2,i3,i4⟩:=hs
  simp only at i1 i2 i3 i4
  by_cases h2 : k < 1 + m.1
  ·right
   obtain ⟨w,c',e,_,hc⟩:=NU i1 (n:=2) (by omega) (by omega)
   cases w with
   | true =>
    refine ⟨(c'.1,c'.2.1,c'.2.2,[k] ++ l,k + 1),⟨hc,?_,?_,?_⟩,?_,fun rec => ?_⟩
    ·simp only; omega
    ·simp only; omega
    ·simp only [List.length_append,List.length_singleton]; omega
    ·simp only; omega
    ·simp only [C9]
     rw [wrap_in (n:=1 + m.1) ⟨by omega,by omega⟩,decide_eq_true h2,e]
     simp only [cond_true,Ad]
     rw [Ak (by unfold lim; simp only [List.length_singleton]; omega)]
     unfold Ff
     rw [wrap_in (n:=k + 1) ⟨by omega,by omega⟩]
   | false =>
    refine ⟨(c'.1,c'.2.1,c'.2.2,l,k + 1),⟨hc,?_,?_,?_⟩,?_,fun rec => ?_⟩
    ·simp only; omega
    ·simp only; omega
    ·simp only; omega
    ·simp only; omega
    ·simp only [C9]
     rw [wrap_in (n:=1 + m.1) ⟨by omega,by omega⟩,decide_eq_true h2,e]
     simp only [cond_true,cond_false,Ad]
     unfold Ff
     rw [wrap_in (n:=k + 1) ⟨by omega,by omega⟩]
  ·left
   refine ⟨(b,i,hh,l),⟨i1,by simp only; omega⟩,fun rec => ?_⟩
   simp only [C9]
   rw [wrap_in (n:=1 + m.1) ⟨by omega,by omega⟩,decide_eq_false h2]; rfl) fz (c.1,c.2.1,c.2.2,([] : List Int),0) ⟨h,by simp,by simp only; omega,by simp⟩ (by unfold fz; simp only; omega)
theorem bT (h : Ec c) : Dr (Ir c) fun q => Oc q = true:=by
 unfold Ir
 obtain ⟨s,c1,e1,hs,hc1⟩:=U0 h (l:=OM) (by simp [OM]) (by simp [OM])
 unfold OM at e1
 rw [e1]
 simp only [Ad]
 obtain ⟨q,b,e2,hq⟩:=Rr hs
 rw [e2]
 simp only
 obtain ⟨w,c2,e3,_,hc2⟩:=NU hc1 (n:=3) (by omega) (by omega)
 rw [e3]
 simp only
 cases w with
 | false => exact ⟨_,_,rfl,hq,hc2⟩
 | true =>
  simp only [Bool.not_true,cond_false]
  obtain ⟨n,c3,e4,hn,hc3⟩:=ES hc2 (n:=4) (by omega) (by omega)
  rw [e4]
  simp only
  obtain ⟨m,c4,e5,hm,hc4⟩:=ES hc3 (n:=4) (by omega) (by omega)
  rw [e5]
  simp only
  rw [wrap_in (n:=1 + m) ⟨by omega,by omega⟩,wrap_in (n:=1 + n) ⟨by omega,by omega⟩]
  obtain ⟨o,e6,ho,hl,ha⟩:=VI hc4 (1 + m) (n,c3) (by simp only; omega) (by simp only; omega) (by omega)
  rw [e6]
  obtain ⟨o1,o2,o3,o4⟩:=o
  simp only at ho hl ha ⊢
  obtain ⟨p,e7,hp,hl2⟩:=YU ho (n,c3) (by simp only; omega) (by simp only; omega)
  simp only at e7
  rw [e7]
  obtain ⟨p1,p2,p3,p4⟩:=p
  simp only at hp hl2 ⊢
  rw [Vc (q:=(1 + n,o4,p4)) ⟨by unfold lim; simp only; omega,fun a h => by have:=ha a h; unfold lim; omega,by unfold lim; simp only; omega⟩]
  simp only
  cases hv : Oc (1 + n,o4,p4) with
  | false => exact ⟨_,_,rfl,hq,hp⟩
  | true => exact ⟨_,_,rfl,hv,hp⟩
def AnyQ (q : Qry) : Prop:=0 <= q.1 ∧ q.1 <= 6 ∧ 1 <= q.2.1.length ∧ q.2.1.length <= 5 ∧ (∀ a ∈ q.2.1,a.1.length <= 4 ∧ a.2.length <= 5) ∧ q.2.2.length <= 6
theorem AnyQ.sm {q : Qry} (h : AnyQ q) : smQ q:=by
 obtain ⟨h1,h2,h3,h4,h5,h6⟩:=h
 unfold smQ lim
 exact ⟨by omega,fun a ha => by have:=h5 a ha; omega,by omega⟩
end
end Go.Proofs.YtklcofndjkjldaaGreat
