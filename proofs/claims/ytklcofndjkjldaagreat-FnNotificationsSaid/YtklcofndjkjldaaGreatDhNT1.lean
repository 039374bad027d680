/-
 What is drawn: changes and histories. On the printed functions; conditions: the code's length.
-/
import Derived.Test.YtklcofndjkjldaaGreatDlNT1
import Derived.Test.YtklcofndjkjldaaGreatAsNT1
namespace Go.Proofs.YtklcofndjkjldaaGreat
open Go.RowKit
set_option linter.unusedVariables false
set_option linter.unusedSimpArgs false
def VE (r : Rln) : Prop:=r.2.length <= 4000 ∧ ∀ x ∈ r.2,x.length <= 10
theorem VE.sm {r : Rln} (h : VE r) : A9 r.2:=⟨by have:=h.1; unfold lim; omega,fun x hx => by have:=h.2 x hx; unfold lim; omega⟩
theorem cf {r : Rln} {row : Row} (h : VE r) (hrow : row.length <= lim) : ∃ r' b,GR r row = some (r',b) ∧ VE r':=by
 unfold GR
 rw [OT h.sm]
 simp only [Ad,MO h.sm]
 cases hv : Fi r with
 | false => exact ⟨_,_,rfl,h⟩
 | true =>
  obtain ⟨v1,v2,v3,v4⟩:=(G7 r).1 hv
  simp only [Bool.not_true,cond_false]
  cases ha : (row.length : Int) != r.1 with
  | true => exact ⟨_,_,rfl,h⟩
  | false =>
   have ha : (row.length : Int) = r.1:=by simpa using ha
   simp only [cond_false,Zd hrow]
   cases Lo row with
   | false => exact ⟨_,_,rfl,h⟩
   | true =>
    obtain ⟨k,hk,e,-,-⟩:=PE (row:=row) v4 h.sm
    rw [e]
    simp only [Bool.not_true,cond_false]
    cases r.2.contains row with
    | true => exact ⟨_,_,rfl,h⟩
    | false =>
     simp only [cond_false]
     cases h4 : (r.2.length : Int) == 4000 with
     | true => exact ⟨_,_,rfl,h⟩
     | false =>
      have h4 : ¬ (r.2.length : Int) = 4000:=by simpa using h4
      simp only [cond_false,List.nil_append]
      have s1 : (BX r.2 (k : Int) (r.2.length : Int)).length <= 4000:=by unfold BX; rw [List.length_drop,List.length_take]; omega
      have s2 : (BX r.2 0 (k : Int)).length <= 4000:=by unfold BX; rw [List.length_drop,List.length_take]; omega
      rw [Ak (by simp only [List.length_nil]; omega),Ak (by omega),Ak (by simp only [List.length_singleton]; unfold lim; omega),Ak (by omega),Ak (by simp only [List.length_nil]; unfold lim; omega),Ak (by simp only [List.length_append,List.length_singleton]; unfold lim; omega)]
      refine ⟨_,_,rfl,?_,fun x hx => ?_⟩
      ·have : (BX r.2 0 (k : Int)).length + (BX r.2 (k : Int) (r.2.length : Int)).length = r.2.length:=by
        unfold BX
        rw [List.length_drop,List.length_take,List.length_drop,List.length_take]
        omega
       simp only [List.length_append,List.length_singleton]
       omega
      ·simp only [List.mem_append,List.mem_singleton] at hx
       rcases hx with hx | rfl | hx
       ·exact h.2 x (List.mem_of_mem_take (List.mem_of_mem_drop hx))
       ·omega
       ·exact h.2 x (List.mem_of_mem_take (List.mem_of_mem_drop hx))
section
variable {c : Cur}
theorem T0 (h : Ec c) {d : List Tbl} (hd : Iu d) (hl : d.length <= 256) : Dr (FD c d) fun x => smD x:=by
 unfold FD
 cases h0 : (d.length : Int) == 0 with
 | true => exact ⟨_,_,rfl,⟨by simp [lim],⟨by simp [lim],fun r hr => by cases hr⟩,⟨by simp [lim],fun r hr => by cases hr⟩⟩,h⟩
 | false =>
  have h0 : ¬ (d.length : Int) = 0:=by simpa using h0
  simp only [cond_false,Ad]
  obtain ⟨k,c1,e1,hk,hc1⟩:=ES h (n:=(d.length : Int)) (by omega) (by omega)
  rw [e1]
  have hg : AK d k = some (d[k.toNat]'(by omega)):=by unfold AK; rw [if_pos hk.1,List.getElem?_eq_getElem]
  have ht:=hd.2 _ (List.getElem_mem (by omega : k.toNat < d.length))
  generalize d[k.toNat]'(by omega) = t at hg ht
  simp only [hg]
  have hb : 0 <= (if 0 < (if t.2.1 < 5 then t.2.1 else 5) then (if t.2.1 < 5 then t.2.1 else 5) else 0) ∧ (if 0 < (if t.2.1 < 5 then t.2.1 else 5) then (if t.2.1 < 5 then t.2.1 else 5) else 0) <= 5:=by
   split
   ·rename_i h1; refine ⟨by omega,?_⟩; split <;> omega
   ·omega
  have hB1 : ∀ n : Int,n = (if 0 < (if t.2.1 < 5 then t.2.1 else 5) then (if t.2.1 < 5 then t.2.1 else 5) else 0) -> ∀ (a : Cur) (r : Rln),Ec a -> VE r -> ∃ o,Al (BD t) fz (a.1,a.2.1,a.2.2,r.1,r.2,0) = some o ∧ Ec (o.1,o.2.1,o.2.2.1) ∧ VE (o.2.2.2.1,o.2.2.2.2):=by
   intro n hn a r ha hr
   exact F0 (B:=BD t) (fun s => Ec (s.1,s.2.1,s.2.2.1) ∧ VE (s.2.2.2.1,s.2.2.2.2.1) ∧ 0 <= s.2.2.2.2.2 ∧ s.2.2.2.2.2 <= t.2.2.length) (fun s => ((t.2.2.length : Int) - s.2.2.2.2.2).toNat) (fun o => Ec (o.1,o.2.1,o.2.2.1) ∧ VE (o.2.2.2.1,o.2.2.2.2)) (fun s hs => by
    obtain ⟨b,i,hh,ar,l,j⟩:=s
    obtain ⟨i1,i2,i3,i4⟩:=hs
    simp only at i1 i2 i3 i4
    have htl:=ht.2.1
    unfold lim at htl
    by_cases h2 : j < (t.2.2.length : Int)
    ·right
     obtain ⟨w,c',e,_,hc⟩:=NU i1 (n:=3) (by omega) (by omega)
     have hg2 : AK t.2.2 j = some (t.2.2[j.toNat]'(by omega)):=by unfold AK; rw [if_pos i3,List.getElem?_eq_getElem]
     have hrow:=ht.2.2 _ (List.getElem_mem (by omega : j.toNat < t.2.2.length))
     generalize t.2.2[j.toNat]'(by omega) = row at hg2 hrow
     have hW : IntKind.i64.wrap (j + 1) = j + 1:=wrap_in (by omega)
     have plain : ∃ s' : List Int × Int × Int × Int × List (List Int) × Int,(Ec (s'.1,s'.2.1,s'.2.2.1) ∧ VE (s'.2.2.2.1,s'.2.2.2.2.1) ∧ 0 <= s'.2.2.2.2.2 ∧ s'.2.2.2.2.2 <= t.2.2.length) ∧ ((t.2.2.length : Int) - s'.2.2.2.2.2).toNat < ((t.2.2.length : Int) - j).toNat ∧ ∀ rec,Dk rec t ar l j c'.1 c'.2.1 c'.2.2 false = rec s' :=
      ⟨(c'.1,c'.2.1,c'.2.2,ar,l,j + 1),⟨hc,i2,by simp only; omega,by simp only; omega⟩,by simp only; omega,fun rec => by unfold Dk Ek; rw [cond_false,hW]⟩
     cases w with
     | false =>
      obtain ⟨s',q1,q2,q3⟩:=plain
      refine ⟨s',q1,q2,fun rec => ?_⟩
      simp only [BD]
      rw [decide_eq_true h2,e]
      simp only [cond_true,cond_false,Ad]
      exact q3 rec
     | true =>
      cases hq : ((List.length row : Int) == (if 0 < (if t.2.1 < 5 then t.2.1 else 5) then (if t.2.1 < 5 then t.2.1 else 5) else 0)) with
      | false =>
       obtain ⟨s',q1,q2,q3⟩:=plain
       refine ⟨s',q1,q2,fun rec => ?_⟩
       simp only [BD]
       rw [decide_eq_true h2,e]
       simp only [cond_true,Ad,hg2,hq]
       exact q3 rec
      | true =>
       obtain ⟨r',b',e4,hr'⟩:=cf i2 hrow
       refine ⟨(c'.1,c'.2.1,c'.2.2,r'.1,r'.2,j + 1),⟨hc,hr',by simp only; omega,by simp only; omega⟩,by simp only; omega,fun rec => ?_⟩
       simp only [BD]
       rw [decide_eq_true h2,e]
       simp only [cond_true,Ad,hg2,hq]
       unfold Dk Ek
       simp only [cond_true,hg2,Ad,e4,hW]
    ·left
     refine ⟨(b,i,hh,ar,l),⟨i1,i2⟩,fun rec => ?_⟩
     simp only [BD]
     rw [decide_eq_false h2]; rfl) fz (a.1,a.2.1,a.2.2,r.1,r.2,0) ⟨ha,hr,by simp,by simp⟩ (by have:=ht.2.1; unfold lim at this; unfold fz; simp only; omega)
  have hB1:=hB1 _ rfl
  generalize (if 0 < (if t.2.1 < 5 then t.2.1 else 5) then (if t.2.1 < 5 then t.2.1 else 5) else 0) = n at hb ⊢
  obtain ⟨x,c2,e2,hx,hc2⟩:=U5 hc1 (a:=n) (m:=3) (v:=4) hb.1 (by omega) (by omega) (by omega) (by omega) (by omega)
  rw [e2]
  simp only
  obtain ⟨y,c3,e3,hy,hc3⟩:=U5 hc2 (a:=n) (m:=2) (v:=4) hb.1 (by omega) (by omega) (by omega) (by omega) (by omega)
  rw [e3]
  simp only
  obtain ⟨o,e4,o1,o2⟩:=hB1 c3 y hc3 ⟨by have:=hy.1; omega,fun r hr => by have:=hy.2 r hr; omega⟩
  rw [e4]
  obtain ⟨p1,p2,p3,p4,p5⟩:=o
  simp only at o1 o2 ⊢
  obtain ⟨w,c4,e5,_,hc4⟩:=ES o1 (n:=14) (by omega) (by omega)
  rw [e5]
  simp only
  have hxs : A9 x.2:=M9 hx (by omega)
  cases (w == 0) with
  | true =>
   simp only [cond_true]
   obtain ⟨s,c5,e6,hs,hc5⟩:=U0 hc4 (l:=[[],[119],[115]]) (by simp) (by simp)
   have hs' : s.length <= lim:=by simp at hs; rcases hs with rfl | rfl | rfl <;> simp [lim]
   rw [e6]
   exact ⟨_,_,rfl,⟨hs',hxs,o2.sm⟩,hc5⟩
  | false =>
   simp only [cond_false]
   cases (w == 1) with
   | true =>
    simp only [cond_true]
    obtain ⟨z,c5,e6,hz,hc5⟩:=any_ok hc4
    rw [e6]
    exact ⟨_,_,rfl,⟨ht.1,hz.sm,o2.sm⟩,hc5⟩
   | false => exact ⟨_,_,rfl,⟨ht.1,hxs,o2.sm⟩,hc4⟩
def HsD (h : Hst) : Prop:=1 <= h.2.length ∧ h.2.length <= 6 ∧ ∀ d ∈ h.2,Iu d ∧ d.length <= 6
theorem HsD.sm {h : Hst} (k : HsD h) : cr h:=⟨by have:=k.2.1; unfold lim; omega,fun d hd => (k.2.2 d hd).1⟩
end
end Go.Proofs.YtklcofndjkjldaaGreat
