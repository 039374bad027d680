/-
 What is drawn: notifiers. On the printed functions; conditions: the code's length.
-/
import Derived.Test.YtklcofndjkjldaaGreatNsNT1
import Derived.Test.YtklcofndjkjldaaGreatDhNT1
import Derived.Test.YtklcofndjkjldaaGreatDqNT1
namespace Go.Proofs.YtklcofndjkjldaaGreat
open Go.RowKit
set_option linter.unusedVariables false
set_option linter.unusedSimpArgs false
def NtD (n : Ntf) : Prop:=N5 n ∧ ntI n
theorem gz {d : List Tbl} (h : Iu d) : FP d = some (cond (dbB d) ((d,[],[]),true) (([],[],[]),false)):=by
 unfold FP
 simp only [XC h,Ad,N1 h]
 cases dbB d <;> rfl
theorem Wn : Iu []:=⟨by simp [lim],fun t ht => by cases ht⟩
theorem Xq {d : List Tbl} (h : Iu d) : NtD (d,[],[]):=⟨⟨h,⟨by simp [lim],fun v hv => (by cases hv)⟩,by simp [lim],fun c hc => (by cases hc)⟩,(fun v hv => (by cases hv)),fun c hc => (by cases hc)⟩
theorem iW {n : Ntf} {q : Qry} (h : N5 n) (hI : ntI n) (hq : smQ q) : ∃ r,E8 n q = some r ∧ (r = (n,false) ∨ ∃ z,GL z ∧ GK z = true ∧ n.2.1.length <= 3 ∧ n.2.2.length = n.2.1.length ∧ r = ((n.1,n.2.1 ++ [(q,z)],n.2.2 ++ [z]),true)):=by
 obtain ⟨b,e1,e2,e3⟩:=Pv h
 obtain ⟨x,v1,v2,x1,x2,x3⟩:=N9 (q:=q) h.1 hq
 unfold E8 Je
 rw [Rv h hI,v1,e1,AE,AE]
 have hsv : ∀ K : (Vw × Bool) -> Option (Ntf × Bool),(Ad (cond (!x.2) (some (((0,[],[]),(0,[],[])),false)) (Ad (Gs q) fun v5 => some ((v5,x.1),true))) K) = K (cond x.2 ((q,x.1),true) (((0,[],[]),(0,[],[])),false)):=fun K => by
  cases x.2 with
  | false => rfl
  | true => rw [Bool.not_true,cond_false,Rw hq]; rfl
 rw [hsv,AE]
 cases b with
 | false => exact ⟨_,rfl,.inl rfl⟩
 | true =>
  obtain ⟨f1,f2,f3⟩:=e3 rfl
  rw [Bool.not_true,cond_false]
  cases hx : x.2 with
  | false => exact ⟨_,rfl,.inl rfl⟩
  | true =>
   obtain ⟨x4,x5⟩:=x2 hx
   simp only [cond_true,Bool.not_true,cond_false]
   rcases Nat.lt_or_ge n.2.1.length 4 with h4 | h4
   ·rw [show ((List.length n.2.1 : Int) == 4) = false by rw [beq_eq_false_iff_ne]; omega]
    simp only [cond_false]
    rw [Ak (by rw [List.length_singleton]; unfold lim; omega),Rx x1,AE,Rx (NT x1),AE,YL (TW x4),Ak (by rw [List.length_singleton]; unfold lim; omega)]
    exact ⟨_,rfl,.inr ⟨x.1,x1,x4,by omega,f3,rfl⟩⟩
   ·rw [show ((List.length n.2.1 : Int) == 4) = true by rw [beq_iff_eq]; omega]
    exact ⟨_,rfl,.inl rfl⟩
theorem YP {n : Ntf} {q : Qry} (h : NtD n) (hq : smQ q) : ∃ r,E8 n q = some r ∧ NtD r.1 ∧ r.1.1 = n.1:=by
 obtain ⟨r,e1,hr⟩:=iW h.1 h.2 hq
 refine ⟨r,e1,?_⟩
 rcases hr with rfl | ⟨z,z1,z2,z3,z4,rfl⟩
 ·exact ⟨h,rfl⟩
 ·refine ⟨⟨⟨h.1.1,⟨by show (n.2.1 ++ [(q,z)]).length <= lim; rw [List.length_append,List.length_singleton]; unfold lim; omega,fun v hv => ?_⟩,by show (n.2.2 ++ [z]).length <= lim; rw [List.length_append,List.length_singleton]; unfold lim; omega,fun c hc => ?_⟩,fun v hv => ?_,fun c hc => ?_⟩,rfl⟩
  ·rcases List.mem_append.1 hv with hv | hv
   ·exact h.1.2.1.2 v hv
   ·rw [List.mem_singleton] at hv; subst hv; exact ⟨hq,z1⟩
  ·rcases List.mem_append.1 hc with hc | hc
   ·exact h.1.2.2.2 c hc
   ·rw [List.mem_singleton] at hc; subst hc; exact z1
  ·rcases List.mem_append.1 hv with hv | hv
   ·exact h.2.1 v hv
   ·rw [List.mem_singleton] at hv; subst hv; exact TW z2
  ·rcases List.mem_append.1 hc with hc | hc
   ·exact h.2.2 c hc
   ·rw [List.mem_singleton] at hc; subst hc; exact TW z2
theorem bG {n : Ntf} {x : Dlt} (h : NtD n) (hd : n.1.length < lim) (hx : smD x) : NtD (ncR n x).1 ∧ ((ncR n x).2.2 = true -> dbB (ncR n x).1.1 = true ∧ n.2.1.length <= 4) ∧ ((ncR n x).2.2 = false -> (ncR n x) = (n,[],false)):=by
 unfold ncR
 cases hb : (ntB n && ((En n.1 x).2 && n.2.1.all (Mu n.1 x))) with
 | false => exact ⟨h,fun h => (by cases h),fun _ => rfl⟩
 | true =>
  simp only [Bool.and_eq_true] at hb
  obtain ⟨b1,b2,b3⟩:=hb
  obtain ⟨f1,f2,f3,f4⟩:=LG b1
  have hz : ∀ v ∈ n.2.1,GK (newC n.1 x v) = true:=fun v hv => by
   have:=List.all_eq_true.1 b3 v hv
   unfold Mu at this
   rw [Bool.and_eq_true] at this
   exact (Nj this.2).2.2.2.1
  refine ⟨⟨⟨L7 h.1.1 hd hx,⟨by show (n.2.1.map fun v => (v.1,newC n.1 x v)).length <= lim; rw [List.length_map]; exact h.1.2.1.1,fun v hv => ?_⟩,by show (n.2.1.map (newC n.1 x)).length <= lim; rw [List.length_map]; exact h.1.2.1.1,fun c hc => ?_⟩,fun v hv => ?_,fun c hc => ?_⟩,fun _ => ⟨TE b2,f2⟩,fun h => (by cases h)⟩
  ·obtain ⟨u,hu,rfl⟩:=List.mem_map.1 hv; exact ⟨(h.1.2.1.2 u hu).1,RO⟩
  ·obtain ⟨u,hu,rfl⟩:=List.mem_map.1 hc; exact RO
  ·obtain ⟨u,hu,rfl⟩:=List.mem_map.1 hv; exact TW (hz u hu)
  ·obtain ⟨u,hu,rfl⟩:=List.mem_map.1 hc; exact TW (hz u hu)
theorem W5 {d : List Tbl} (h : dbB d = true) : d.length <= 6:=(X4 h).1
section
variable {c : Cur}
theorem Vt (h : Ec c) {n : Ntf} (hn : NtD n) {k : Int} (hk : k <= 10) : ∃ o,Al El fz (c.1,c.2.1,c.2.2,n.1,n.2.1,n.2.2,k) = some o ∧ Ec (o.1,o.2.1,o.2.2.1) ∧ NtD (o.2.2.2.1,o.2.2.2.2.1,o.2.2.2.2.2) ∧ o.2.2.2.1 = n.1:=by
 exact F0 (B:=El) (fun s => Ec (s.1,s.2.1,s.2.2.1) ∧ NtD (s.2.2.2.1,s.2.2.2.2.1,s.2.2.2.2.2.1) ∧ s.2.2.2.1 = n.1 ∧ s.2.2.2.2.2.2 <= 10) (fun s => s.2.2.2.2.2.2.toNat) (fun o => Ec (o.1,o.2.1,o.2.2.1) ∧ NtD (o.2.2.2.1,o.2.2.2.2.1,o.2.2.2.2.2) ∧ o.2.2.2.1 = n.1) (fun s hs => by
  obtain ⟨b,i,hh,d,V,D,k⟩:=s
  obtain ⟨i1,i2,i3,i4⟩:=hs
  simp only at i1 i2 i3 i4
  by_cases h2 : 0 < k
  ·right
   obtain ⟨q,c',e,hq,hc⟩:=bT i1
   obtain ⟨r,e2,r1,r2⟩:=YP i2 (bU hq)
   refine ⟨(c'.1,c'.2.1,c'.2.2,r.1.1,r.1.2.1,r.1.2.2,k - 1),⟨hc,r1,by show r.1.1 = n.1; rw [r2]; exact i3,by simp only; omega⟩,by simp only; omega,fun rec => ?_⟩
   simp only [El]
   rw [decide_eq_true h2,cond_true,e,AE,e2,AE,wrap_in (by omega)]
  ·left
   refine ⟨(b,i,hh,d,V,D),⟨i1,i2,i3⟩,fun rec => ?_⟩
   simp only [El]
   rw [decide_eq_false h2,cond_false]) fz (c.1,c.2.1,c.2.2,n.1,n.2.1,n.2.2,k) ⟨h,hn,rfl,hk⟩ (by unfold fz; simp only; omega)
theorem Vu (h : Ec c) {n : Ntf} (hn : NtD n) (hd : n.1.length <= 256) : Dr (Dl c.1 c.2.1 c.2.2 n.1 n.2.1 n.2.2) fun w => NtD w ∧ (w.1 = n.1 ∨ ∃ x,smD x ∧ w.1 = (En n.1 x).1):=by
 unfold Dl
 obtain ⟨v,c1,e1,hv,hc1⟩:=ES h (n:=16) (by omega) (by omega)
 have e1' : AZ (c.1,c.2.1,c.2.2) 16 = some (v,c1):=e1
 rw [e1',AE]
 simp only
 cases h0 : v == 0 with
 | true =>
  obtain ⟨x,c2,e2,hx,hc2⟩:=T0 hc1 hn.1.1 hd
  rw [cond_true,e2,AE]
  simp only
  rw [Za hn.1.1 (by unfold lim; omega) hx,AE]
  exact ⟨_,_,rfl,⟨⟨⟨L7 hn.1.1 (by unfold lim; omega) hx,hn.1.2⟩,hn.2⟩,.inr ⟨x,hx,rfl⟩⟩,hc2⟩
 | false =>
  rw [cond_false]
  cases h1 : v == 1 with
  | false => exact ⟨_,_,rfl,⟨hn,.inl rfl⟩,hc1⟩
  | true =>
   rw [cond_true]
   by_cases hl : 0 < n.2.2.length
   ·rw [decide_eq_true (by omega),cond_true,Ak (by omega)]
    refine ⟨_,_,rfl,⟨⟨⟨hn.1.1,hn.1.2.1,?_,fun c hc => hn.1.2.2.2 c ?_⟩,hn.2.1,fun c hc => hn.2.2 c ?_⟩,.inl rfl⟩,hc1⟩
    ·show (BX n.2.2 1 (n.2.2.length : Int)).length <= lim
     have:=hn.1.2.2.1
     unfold BX
     rw [List.length_drop,List.length_take]; omega
    ·exact List.mem_of_mem_take (List.mem_of_mem_drop hc)
    ·exact List.mem_of_mem_take (List.mem_of_mem_drop hc)
   ·rw [decide_eq_false (by omega),cond_false]
    exact ⟨_,_,rfl,⟨hn,.inl rfl⟩,hc1⟩
theorem XP {d : List Tbl} {x : Dlt} (h : d.length <= 256) : (En d x).1.length <= 256:=by
 cases hb : (En d x).2 with
 | true => have:=W5 (TE hb); omega
 | false =>
  have : (En d x).1 = d:=by
   unfold En at hb ⊢
   simp only at hb ⊢
   cases h1 : (Iy d x).2 with
   | false => rfl
   | true =>
    rw [h1] at hb
    simp only [Bool.not_true,cond_false] at hb ⊢
    cases hu : (unR (Of (BY d x.1).1 (Iy d x).1.2.2).1 (Iy d x).1.2.1).2 with
    | false => rfl
    | true =>
     rw [hu] at hb
     simp only [Bool.not_true,cond_false] at hb ⊢
     unfold setB at hb ⊢
     cases hs : (!dbB d || !dbB (PI d x.1 (unR (Of (BY d x.1).1 (Iy d x).1.2.2).1 (Iy d x).1.2.1).1)) with
     | true => rfl
     | false => rw [hs] at hb; cases hb
  rw [this]; exact h
theorem Vv (h : Ec c) : Dr (HD c) fun w => NtD w ∧ w.1.length <= 256:=by
 unfold HD
 obtain ⟨d,c1,e1,⟨hl,hd⟩,hc1⟩:=dK h
 rw [e1,AE]
 simp only
 rw [gz hd.sm,AE]
 obtain ⟨n0,hn0,hN0,hl0⟩ : ∃ n0 : Ntf × Bool,n0 = cond (dbB d) ((d,[],[]),true) (([],[],[]),false) ∧ NtD n0.1 ∧ n0.1.1.length <= 256:=by
  refine ⟨_,rfl,?_⟩
  cases dbB d with
  | true => exact ⟨Xq hd.sm,by show d.length <= 256; omega⟩
  | false => exact ⟨Xq Wn,by simp⟩
 rw [<- hn0]
 obtain ⟨k,c2,e2,hk,hc2⟩:=ES hc1 (n:=3) (by omega) (by omega)
 rw [e2,AE]
 simp only
 obtain ⟨o,e3,ho,hN,hsame⟩:=Vt hc2 hN0 (k:=k) (by omega)
 rw [e3,AE]
 obtain ⟨o1,o2,o3,o4,o5,o6⟩:=o
 simp only at ho hN hsame ⊢
 have hl4 : o4.length <= 256:=by rw [hsame]; exact hl0
 obtain ⟨w,c3,e4,_,hc3⟩:=NU ho (n:=2) (by omega) (by omega)
 rw [e4,AE]
 simp only
 have fin : ∀ {c' : Cur} {n : Ntf},Ec c' -> NtD n -> n.1.length <= 256 -> Dr (Dl c'.1 c'.2.1 c'.2.2 n.1 n.2.1 n.2.2) fun w => NtD w ∧ w.1.length <= 256:=fun hc hn hl => by
  obtain ⟨v,c'',e,hv,hc''⟩:=Vu hc hn hl
  refine ⟨v,c'',e,⟨hv.1,?_⟩,hc''⟩
  rcases hv.2 with e | ⟨x,-,e⟩
  ·rw [e]; exact hl
  ·rw [e]; exact XP hl
 cases w with
 | false => exact fin (n:=(o4,o5,o6)) hc3 hN hl4
 | true =>
  rw [cond_true]
  obtain ⟨x,c4,e5,hx,hc4⟩:=T0 hc3 hN.1.1 hl4
  rw [e5,AE]
  simp only
  have hlt : (o4,o5,o6).1.length < lim:=by show o4.length < lim; unfold lim; omega
  rw [ii hN.1 hN.2 hlt hx,AE]
  obtain ⟨g1,g2,g3⟩:=bG hN hlt hx
  refine fin hc4 g1 ?_
  cases hb : (ncR (o4,o5,o6) x).2.2 with
  | true => have:=W5 (g2 hb).1; omega
  | false => rw [g3 hb]; exact hl4
end
end Go.Proofs.YtklcofndjkjldaaGreat
