/-
 AddWatcher: the reference and the program give the same. On the printed functions; conditions: lengths, numbers in range.
-/
import Derived.Test.YtceghmdneadhbaaGreatVnWA1
import Derived.Test.YtceghmdneadhbaaGreatSnWA1
-- pure
namespace Go.Proofs.YtceghmdneadhbaaGreat
open Go.RowKit
set_option linter.unusedVariables false
set_option linter.unusedSimpArgs false
def negC (c : Cnt) : Cnt:=(c.1,c.2.1,c.2.2.map fun n => IntKind.i64.wrap (0 - n))
theorem neg_neg {n : Int} (h : InI n) : IntKind.i64.wrap (0 - IntKind.i64.wrap (0 - n)) = n:=by
 obtain ⟨h1,h2⟩:=h
 by_cases e : n = -9223372036854775808
 ·subst e; decide
 ·rw [wrap_in (n:=0 - n) (by omega),wrap_in (by omega)]; omega
theorem negC2 {c : Cnt} (h : ∀ n ∈ c.2.2,InI n) : negC (negC c) = c:=by
 obtain ⟨a,r,l⟩:=c
 unfold negC
 simp only [List.map_map]
 have : l.map ((fun n => IntKind.i64.wrap (0 - n)) ∘ fun n => IntKind.i64.wrap (0 - n)) = l:=by
  have e:=List.map_congr_left (f:=(fun n => IntKind.i64.wrap (0 - n)) ∘ fun n => IntKind.i64.wrap (0 - n)) (g:=id) (l:=l) fun n hn => neg_neg (h n hn)
  rw [e,List.map_id]
 rw [this]
theorem negC_sm {c : Cnt} (h : smCnt c) : smCnt (negC c):=⟨h.1,by show (c.2.2.map _).length <= lim; rw [List.length_map]; exact h.2⟩
theorem s_neg {c : Cnt} (h : smCnt c) : spec_NegateCounted c = some (negC c):=by
 unfold spec_NegateCounted
 rw [s_copy (r:=(0,c.2.1)) h.1,ob_s,map_loop (a:=c.2.2) (h:=fun n => IntKind.i64.wrap (0 - n)) h.2 (fun k hk rec => by
  simp only [spec_NegateCounted_B1]
  rw [lt_dec hk,cond_true,geti_at hk,ob_s,chk_pos (by simp only [List.length_map,List.length_take,List.length_singleton]; have:=h.2; omega),wrap_s hk (lim_max h.2)]) (fun rec y => by simp only [spec_NegateCounted_B1]; rw [nlt_dec,cond_false]),ob_s]
 rfl
theorem i_copyC {c : Cnt} (h : smCnt c) : impl_copyCounted c = some c:=by
 unfold impl_copyCounted
 rw [i_copyR h.1,ob_s,i_copyI h.2,ob_s]
def ntI (n : Ntf) : Prop:=(∀ v ∈ n.2.1,∀ x ∈ v.2.2.2,InI x) ∧ ∀ c ∈ n.2.2,∀ x ∈ c.2.2,InI x
theorem s_copyN {n : Ntf} (h : smNtv n) (hI : ntI n) : spec_l39Copy n = some n:=by
 unfold spec_l39Copy
 rw [s_copyD h.1,ob_s,map_loop (a:=n.2.1) (h:=id) h.2.1.1 (fun k hk rec => by
  have hm:=List.getElem_mem hk
  obtain ⟨h1,h2⟩:=h.2.1.2 _ hm
  have e : spec_l39View n.2.1[k] = some n.2.1[k]:=by
   unfold spec_l39View
   rw [s_copyQ h1,ob_s,s_neg h2,ob_s,s_neg (negC_sm h2),ob_s,negC2 (hI.1 _ hm)]
  simp only [spec_l39Copy_B1]
  rw [lt_dec hk,cond_true,geti_at hk,ob_s,e,ob_s,chk_pos (by simp only [List.length_map,List.length_take,List.length_singleton]; have:=h.2.1.1; omega),wrap_s hk (lim_max h.2.1.1)]; rfl) (fun rec y => by simp only [spec_l39Copy_B1]; rw [nlt_dec,cond_false]),ob_s,map_loop (a:=n.2.2) (h:=id) h.2.2.1 (fun k hk rec => by
  have hm:=List.getElem_mem hk
  have h2:=h.2.2.2 _ hm
  simp only [spec_l39Copy_B2]
  rw [lt_dec hk,cond_true,geti_at hk,ob_s,s_neg h2,ob_s,s_neg (negC_sm h2),ob_s,negC2 (hI.2 _ hm),chk_pos (by simp only [List.length_map,List.length_take,List.length_singleton]; have:=h.2.2.1; omega),wrap_s hk (lim_max h.2.2.1)]; rfl) (fun rec y => by simp only [spec_l39Copy_B2]; rw [nlt_dec,cond_false]),ob_s]
 simp
theorem i_copyN {n : Ntf} (h : smNtv n) : impl_copyNotifier n = some n:=by
 unfold impl_copyNotifier
 rw [i_copyD h.1,ob_s,map_loop (a:=n.2.1) (h:=id) h.2.1.1 (fun k hk rec => by
  have hm:=List.getElem_mem hk
  obtain ⟨h1,h2⟩:=h.2.1.2 _ hm
  have e : impl_copyView n.2.1[k] = some n.2.1[k]:=by
   unfold impl_copyView
   rw [i_copyQ h1,ob_s,i_copyC h2,ob_s]
  simp only [impl_copyNotifier_B1]
  rw [lt_dec hk,cond_true,geti_at hk,ob_s,e,ob_s,chk_pos (by simp only [List.length_map,List.length_take,List.length_singleton]; have:=h.2.1.1; omega),wrap_s hk (lim_max h.2.1.1)]; rfl) (fun rec y => by simp only [impl_copyNotifier_B1]; rw [nlt_dec,cond_false]),ob_s,map_loop (a:=n.2.2) (h:=id) h.2.2.1 (fun k hk rec => by
  have hm:=List.getElem_mem hk
  simp only [impl_copyNotifier_B2]
  rw [lt_dec hk,cond_true,geti_at hk,ob_s,i_copyC (h.2.2.2 _ hm),ob_s,chk_pos (by simp only [List.length_map,List.length_take,List.length_singleton]; have:=h.2.2.1; omega),wrap_s hk (lim_max h.2.2.1)]; rfl) (fun rec y => by simp only [impl_copyNotifier_B2]; rw [nlt_dec,cond_false]),ob_s]
 simp
theorem cnt_I {c : Cnt} (h : cntB c = true) : ∀ x ∈ c.2.2,InI x:=fun x hx => by
 have:=(cnt_facts h).2.2.2.2.2.2 x hx
 exact ⟨by omega,by omega⟩
theorem aw_same {n : Ntf} {q : Qry} (h : smNtv n) (hI : ntI n) (hq : smQ q) : ∃ r,spec_AddWatcher n q = some r ∧ impl_AddWatcher n q = some r ∧ (r = (n,false) ∨ ∃ z,spec_l28Z n.1 q = some (z,true) ∧ smCnt z ∧ cntB z = true ∧ qryB q = true ∧ dbB n.1 = true ∧ n.2.1.length <= 3 ∧ n.2.2.length = n.2.1.length ∧ spec_IsValidNotifier n = some true ∧ r = ((n.1,n.2.1 ++ [(q,z)],n.2.2 ++ [z]),true)):=by
 obtain ⟨b,e1,e2,e3⟩:=ntv_same h
 obtain ⟨x,v1,v2,x1,x2,x3⟩:=view_same (q:=q) h.1 hq
 unfold spec_AddWatcher impl_AddWatcher spec_NewView
 rw [s_copyN h hI,i_copyN h,v1,v2,e1,e2,ob_s,ob_s,ob_s,ob_s]
 have hsv : ∀ K : (Vw × Bool) -> Option (Ntf × Bool),(obind (cond (!x.2) (some (((0,[],[]),(0,[],[])),false)) (obind (spec_l7Copy q) fun v5 => some ((v5,x.1),true))) K) = K (cond x.2 ((q,x.1),true) (((0,[],[]),(0,[],[])),false)):=fun K => by
  cases x.2 with
  | false => rfl
  | true => rw [Bool.not_true,cond_false,s_copyQ hq]; rfl
 rw [hsv,ob_s,ob_s]
 cases b with
 | false => exact ⟨_,rfl,rfl,.inl rfl⟩
 | true =>
  obtain ⟨f1,f2,f3⟩:=e3 rfl
  rw [Bool.not_true,cond_false,cond_false]
  cases hx : x.2 with
  | false => exact ⟨_,rfl,rfl,.inl rfl⟩
  | true =>
   obtain ⟨x4,x5⟩:=x2 hx
   simp only [cond_true,Bool.not_true,cond_false]
   rcases Nat.lt_or_ge n.2.1.length 4 with h4 | h4
   ·rw [show ((List.length n.2.1 : Int) == 4) = false by rw [beq_eq_false_iff_ne]; omega,decide_eq_false (by omega)]
    simp only [cond_false]
    rw [chk_pos (by rw [List.length_singleton]; unfold lim; omega),chk_pos (by rw [List.length_singleton]; unfold lim; omega),s_neg x1,ob_s,s_neg (negC_sm x1),ob_s,negC2 (cnt_I x4),chk_pos (by rw [List.length_singleton]; unfold lim; omega),i_copyC x1,ob_s,chk_pos (by rw [List.length_singleton]; unfold lim; omega)]
    exact ⟨_,rfl,rfl,.inr ⟨x.1,congrArg some (Prod.ext rfl hx),x1,x4,x5,f1,by omega,f3,by first | rfl | exact trivial | exact e1,rfl⟩⟩
   ·rw [show ((List.length n.2.1 : Int) == 4) = true by rw [beq_iff_eq]; omega,decide_eq_true (by omega)]
    exact ⟨_,rfl,rfl,.inl rfl⟩
end Go.Proofs.YtceghmdneadhbaaGreat
