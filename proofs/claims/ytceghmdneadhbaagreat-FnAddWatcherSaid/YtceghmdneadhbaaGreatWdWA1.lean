/-
 What is drawn: notifiers. On the printed functions; conditions: the code's length.
-/
import Derived.Test.YtceghmdneadhbaaGreatNsWA1
import Derived.Test.YtceghmdneadhbaaGreatDhWA1
import Derived.Test.YtceghmdneadhbaaGreatDqWA1
-- pure
namespace Go.Proofs.YtceghmdneadhbaaGreat
open Go.RowKit
set_option linter.unusedVariables false
set_option linter.unusedSimpArgs false
def NtD (n : Ntf) : Prop:=smNtv n ∧ ntI n
theorem new_s {d : List Tbl} (h : smDb d) : spec_NewNotifier d = some (cond (dbB d) ((d,[],[]),true) (([],[],[]),false)):=by
 unfold spec_NewNotifier
 simp only [s_db h,obind,s_copyD h]
 cases dbB d <;> rfl
theorem nil_smDb : smDb []:=⟨by simp [lim],fun t ht => by cases ht⟩
theorem ntD_no {d : List Tbl} (h : smDb d) : NtD (d,[],[]):=⟨⟨h,⟨by simp [lim],fun v hv => (by cases hv)⟩,by simp [lim],fun c hc => (by cases hc)⟩,(fun v hv => (by cases hv)),fun c hc => (by cases hc)⟩
theorem ntD_add {n : Ntf} {q : Qry} (h : NtD n) (hq : smQ q) : ∃ r,spec_AddWatcher n q = some r ∧ NtD r.1 ∧ r.1.1 = n.1:=by
 obtain ⟨r,e1,-,hr⟩:=aw_same h.1 h.2 hq
 refine ⟨r,e1,?_⟩
 rcases hr with rfl | ⟨z,-,z1,z2,-,-,z3,z4,-,rfl⟩
 ·exact ⟨h,rfl⟩
 ·refine ⟨⟨⟨h.1.1,⟨by show (n.2.1 ++ [(q,z)]).length <= lim; rw [List.length_append,List.length_singleton]; unfold lim; omega,fun v hv => ?_⟩,by show (n.2.2 ++ [z]).length <= lim; rw [List.length_append,List.length_singleton]; unfold lim; omega,fun c hc => ?_⟩,fun v hv => ?_,fun c hc => ?_⟩,rfl⟩
  ·rcases List.mem_append.1 hv with hv | hv
   ·exact h.1.2.1.2 v hv
   ·rw [List.mem_singleton] at hv; subst hv; exact ⟨hq,z1⟩
  ·rcases List.mem_append.1 hc with hc | hc
   ·exact h.1.2.2.2 c hc
   ·rw [List.mem_singleton] at hc; subst hc; exact z1
  ·rcases List.mem_append.1 hv with hv | hv
   ·exact h.2.1 v hv
   ·rw [List.mem_singleton] at hv; subst hv; exact cnt_I z2
  ·rcases List.mem_append.1 hc with hc | hc
   ·exact h.2.2 c hc
   ·rw [List.mem_singleton] at hc; subst hc; exact cnt_I z2
theorem nc_ok {n : Ntf} {x : Dlt} (h : NtD n) (hd : n.1.length < lim) (hx : smD x) : NtD (ncR n x).1 ∧ ((ncR n x).2.2 = true -> dbB (ncR n x).1.1 = true ∧ n.2.1.length <= 4) ∧ ((ncR n x).2.2 = false -> (ncR n x) = (n,[],false)):=by
 unfold ncR
 cases hb : (ntB n && ((applB n.1 x).2 && n.2.1.all (okCh n.1 x))) with
 | false => exact ⟨h,fun h => (by cases h),fun _ => rfl⟩
 | true =>
  simp only [Bool.and_eq_true] at hb
  obtain ⟨b1,b2,b3⟩:=hb
  obtain ⟨f1,f2,f3,f4⟩:=nt_facts b1
  have hz : ∀ v ∈ n.2.1,cntB (newC n.1 x v) = true:=fun v hv => by
   have:=List.all_eq_true.1 b3 v hv
   unfold okCh at this
   rw [Bool.and_eq_true] at this
   exact (add_facts this.2).2.2.2.1
  refine ⟨⟨⟨app_smA h.1.1 hd hx,⟨by show (n.2.1.map fun v => (v.1,newC n.1 x v)).length <= lim; rw [List.length_map]; exact h.1.2.1.1,fun v hv => ?_⟩,by show (n.2.1.map (newC n.1 x)).length <= lim; rw [List.length_map]; exact h.1.2.1.1,fun c hc => ?_⟩,fun v hv => ?_,fun c hc => ?_⟩,fun _ => ⟨app_ok b2,f2⟩,fun h => (by cases h)⟩
  ·obtain ⟨u,hu,rfl⟩:=List.mem_map.1 hv; exact ⟨(h.1.2.1.2 u hu).1,add_sm⟩
  ·obtain ⟨u,hu,rfl⟩:=List.mem_map.1 hc; exact add_sm
  ·obtain ⟨u,hu,rfl⟩:=List.mem_map.1 hv; exact cnt_I (hz u hu)
  ·obtain ⟨u,hu,rfl⟩:=List.mem_map.1 hc; exact cnt_I (hz u hu)
theorem db_six {d : List Tbl} (h : dbB d = true) : d.length <= 6:=(db_fewA h).1
section
variable {c : Cur}
theorem watch_add (h : CurOk c) {n : Ntf} (hn : NtD n) {k : Int} (hk : k <= 10) : ∃ o,loopF spec_l39Watch_B1 fz (c.1,c.2.1,c.2.2,n.1,n.2.1,n.2.2,k) = some o ∧ CurOk (o.1,o.2.1,o.2.2.1) ∧ NtD (o.2.2.2.1,o.2.2.2.2.1,o.2.2.2.2.2) ∧ o.2.2.2.1 = n.1:=by
 exact loop_wh (B:=spec_l39Watch_B1) (fun s => CurOk (s.1,s.2.1,s.2.2.1) ∧ NtD (s.2.2.2.1,s.2.2.2.2.1,s.2.2.2.2.2.1) ∧ s.2.2.2.1 = n.1 ∧ s.2.2.2.2.2.2 <= 10) (fun s => s.2.2.2.2.2.2.toNat) (fun o => CurOk (o.1,o.2.1,o.2.2.1) ∧ NtD (o.2.2.2.1,o.2.2.2.2.1,o.2.2.2.2.2) ∧ o.2.2.2.1 = n.1) (fun s hs => by
  obtain ⟨b,i,hh,d,V,D,k⟩:=s
  obtain ⟨i1,i2,i3,i4⟩:=hs
  simp only at i1 i2 i3 i4
  by_cases h2 : 0 < k
  ·right
   obtain ⟨q,c',e,hq,hc⟩:=qry_ok i1
   obtain ⟨r,e2,r1,r2⟩:=ntD_add i2 (qry_sm hq)
   refine ⟨(c'.1,c'.2.1,c'.2.2,r.1.1,r.1.2.1,r.1.2.2,k - 1),⟨hc,r1,by show r.1.1 = n.1; rw [r2]; exact i3,by simp only; omega⟩,by simp only; omega,fun rec => ?_⟩
   simp only [spec_l39Watch_B1]
   rw [decide_eq_true h2,cond_true,e,ob_s,e2,ob_s,wrap_in (by omega)]
  ·left
   refine ⟨(b,i,hh,d,V,D),⟨i1,i2,i3⟩,fun rec => ?_⟩
   simp only [spec_l39Watch_B1]
   rw [decide_eq_false h2,cond_false]) fz (c.1,c.2.1,c.2.2,n.1,n.2.1,n.2.2,k) ⟨h,hn,rfl,hk⟩ (by unfold fz; simp only; omega)
theorem watch_end (h : CurOk c) {n : Ntf} (hn : NtD n) (hd : n.1.length <= 256) : Dr (spec_l39Watch_J2 c.1 c.2.1 c.2.2 n.1 n.2.1 n.2.2) fun w => NtD w ∧ (w.1 = n.1 ∨ ∃ x,smD x ∧ w.1 = (applB n.1 x).1):=by
 unfold spec_l39Watch_J2
 obtain ⟨v,c1,e1,hv,hc1⟩:=below_ok h (n:=16) (by omega) (by omega)
 have e1' : spec_l1Below (c.1,c.2.1,c.2.2) 16 = some (v,c1):=e1
 rw [e1',ob_s]
 simp only
 cases h0 : v == 0 with
 | true =>
  obtain ⟨x,c2,e2,hx,hc2⟩:=dlt_ok hc1 hn.1.1 hd
  rw [cond_true,e2,ob_s]
  simp only
  rw [s_app hn.1.1 (by unfold lim; omega) hx,ob_s]
  exact ⟨_,_,rfl,⟨⟨⟨app_smA hn.1.1 (by unfold lim; omega) hx,hn.1.2⟩,hn.2⟩,.inr ⟨x,hx,rfl⟩⟩,hc2⟩
 | false =>
  rw [cond_false]
  cases h1 : v == 1 with
  | false => exact ⟨_,_,rfl,⟨hn,.inl rfl⟩,hc1⟩
  | true =>
   rw [cond_true]
   by_cases hl : 0 < n.2.2.length
   ·rw [decide_eq_true (by omega),cond_true,chk_pos (by omega)]
    refine ⟨_,_,rfl,⟨⟨⟨hn.1.1,hn.1.2.1,?_,fun c hc => hn.1.2.2.2 c ?_⟩,hn.2.1,fun c hc => hn.2.2 c ?_⟩,.inl rfl⟩,hc1⟩
    ·show (subl n.2.2 1 (n.2.2.length : Int)).length <= lim
     have:=hn.1.2.2.1
     unfold subl
     rw [List.length_drop,List.length_take]; omega
    ·exact List.mem_of_mem_take (List.mem_of_mem_drop hc)
    ·exact List.mem_of_mem_take (List.mem_of_mem_drop hc)
   ·rw [decide_eq_false (by omega),cond_false]
    exact ⟨_,_,rfl,⟨hn,.inl rfl⟩,hc1⟩
theorem watch_ok (h : CurOk c) : Dr (spec_l39Watch c) fun w => NtD w:=by
 unfold spec_l39Watch
 obtain ⟨d,c1,e1,⟨hl,hd⟩,hc1⟩:=db_ok h
 rw [e1,ob_s]
 simp only
 rw [new_s hd.sm,ob_s]
 obtain ⟨n0,hn0,hN0,hl0⟩ : ∃ n0 : Ntf × Bool,n0 = cond (dbB d) ((d,[],[]),true) (([],[],[]),false) ∧ NtD n0.1 ∧ n0.1.1.length <= 256:=by
  refine ⟨_,rfl,?_⟩
  cases dbB d with
  | true => exact ⟨ntD_no hd.sm,by show d.length <= 256; omega⟩
  | false => exact ⟨ntD_no nil_smDb,by simp⟩
 rw [<- hn0]
 obtain ⟨k,c2,e2,hk,hc2⟩:=below_ok hc1 (n:=3) (by omega) (by omega)
 rw [e2,ob_s]
 simp only
 obtain ⟨o,e3,ho,hN,hsame⟩:=watch_add hc2 hN0 (k:=k) (by omega)
 rw [e3,ob_s]
 obtain ⟨o1,o2,o3,o4,o5,o6⟩:=o
 simp only at ho hN hsame ⊢
 have hl4 : o4.length <= 256:=by rw [hsame]; exact hl0
 obtain ⟨w,c3,e4,_,hc3⟩:=once_ok ho (n:=2) (by omega) (by omega)
 rw [e4,ob_s]
 simp only
 have fin : ∀ {c' : Cur} {n : Ntf},CurOk c' -> NtD n -> n.1.length <= 256 -> Dr (spec_l39Watch_J2 c'.1 c'.2.1 c'.2.2 n.1 n.2.1 n.2.2) fun w => NtD w:=fun hc hn hl => by
  obtain ⟨v,c'',e,hv,hc''⟩:=watch_end hc hn hl
  exact ⟨v,c'',e,hv.1,hc''⟩
 cases w with
 | false => exact fin (n:=(o4,o5,o6)) hc3 hN hl4
 | true =>
  rw [cond_true]
  obtain ⟨x,c4,e5,hx,hc4⟩:=dlt_ok hc3 hN.1.1 hl4
  rw [e5,ob_s]
  simp only
  have hlt : (o4,o5,o6).1.length < lim:=by show o4.length < lim; unfold lim; omega
  rw [s_nc hN.1 hN.2 hlt hx,ob_s]
  obtain ⟨g1,g2,g3⟩:=nc_ok hN hlt hx
  refine fin hc4 g1 ?_
  cases hb : (ncR (o4,o5,o6) x).2.2 with
  | true => have:=db_six (g2 hb).1; omega
  | false => rw [g3 hb]; exact hl4
end
end Go.Proofs.YtceghmdneadhbaaGreat
