/-
 New views: the reference and the program give the same. On the printed functions; conditions: lengths.
-/
import Derived.Test.YtceghmdneadhbaaGreatPjWA1
import Derived.Test.YtceghmdneadhbaaGreatVsWA1
-- pure
namespace Go.Proofs.YtceghmdneadhbaaGreat
open Go.RowKit
set_option linter.unusedVariables false
set_option linter.unusedSimpArgs false
def ofR (r : Rln) : Cnt × Bool:=cond (relB r) ((r.1,r.2,List.replicate r.2.length 1),true) ((0,[],[]),false)
theorem ones_loop {B : (List Int × Int -> Option (List Int)) -> List Int × Int -> Option (List Int)} {n : Nat} (hl : n <= lim) (h1 : ∀ k,k < n -> ∀ rec,B rec (List.replicate k 1,(k : Int)) = rec (List.replicate k 1 ++ [1],((k + 1 : Nat) : Int))) (h2 : ∀ rec y,B rec (y,(n : Int)) = some y) : loopF B fz (([] : List Int),0) = some (List.replicate n 1):=by
 have:=loop_to (body:=B) (out:=List.replicate n 1) (fun k => (List.replicate k 1,(k : Int))) n (fun k hk rec => by rw [h1 k hk,<- List.replicate_succ']) (fun rec => h2 rec _) fz (lt_fz hl)
 simpa using this
theorem s_cfr {r : Rln} (h : smRows r.2) : spec_CountedFromRelation r = some (ofR r):=by
 unfold spec_CountedFromRelation ofR
 rw [s_rel h,ob_s]
 cases relB r with
 | false => rfl
 | true =>
  rw [Bool.not_true,cond_false,s_copy h,ob_s,ones_loop (B:=spec_CountedFromRelation_B1 r) (n:=r.2.length) h.1 (fun k hk rec => by
   simp only [spec_CountedFromRelation_B1]
   rw [lt_dec hk,cond_true,chk_pos (by rw [List.length_replicate,List.length_singleton]; have:=h.1; omega),wrap_s hk (lim_max h.1)]) (fun rec y => by simp only [spec_CountedFromRelation_B1]; rw [nlt_dec,cond_false]),ob_s]; rfl
theorem i_cfr {r : Rln} (h : smRows r.2) : impl_CountedFromRelation r = some (ofR r):=by
 unfold impl_CountedFromRelation ofR
 rw [i_rel h,ob_s]
 cases relB r with
 | false => rfl
 | true =>
  rw [Bool.not_true,cond_false,i_copyR h,ob_s,ones_loop (B:=impl_CountedFromRelation_B1 r) (n:=r.2.length) h.1 (fun k hk rec => by
   simp only [impl_CountedFromRelation_B1]
   rw [lt_dec hk,cond_true,chk_pos (by rw [List.length_replicate,List.length_singleton]; have:=h.1; omega),wrap_s hk (lim_max h.1)]) (fun rec y => by simp only [impl_CountedFromRelation_B1]; rw [nlt_dec,cond_false]),ob_s]; rfl
theorem noC_sm : smCnt ((0,[],[]) : Cnt):=⟨⟨Nat.zero_le _,fun r hr => by cases hr⟩,Nat.zero_le _⟩
theorem proj_sm {c : Cnt} {cols : List Int} : smCnt (pjC c cols).1:=by
 unfold pjC
 cases hc : cntB c with
 | false => exact noC_sm
 | true =>
  cases hf : colsB c.1 cols with
  | false => exact noC_sm
  | true =>
   have hok:=prs_ok hc (cols_in hc hf).1
   cases cntB (setR (cols.length : Int) (prsL c cols)) with
   | false => exact noC_sm
   | true => exact set_smC hok
theorem proj_ok {c : Cnt} {cols : List Int} (h : (pjC c cols).2 = true) : cntB (pjC c cols).1 = true:=by
 unfold pjC at h ⊢
 cases hb : (cntB c && (colsB c.1 cols && cntB (setR (cols.length : Int) (prsL c cols)))) with
 | false => rw [hb] at h; cases h
 | true =>
  simp only [Bool.and_eq_true] at hb
  exact hb.2.2
section
variable {d : List Tbl} {q : Qry}
theorem view_same (h : smDb d) (hs : smQ q) : ∃ x : Cnt × Bool,spec_l28Z d q = some x ∧ impl_NewView d q = some (cond x.2 ((q,x.1),true) (((0,[],[]),(0,[],[])),false)) ∧ smCnt x.1 ∧ (x.2 = true -> cntB x.1 = true ∧ qryB q = true) ∧ (x.2 = false -> x.1 = (0,[],[])):=by
 obtain ⟨h1,h2⟩:=all_same h hs
 unfold spec_l28Z impl_NewView
 rw [s_qfor h hs]
 cases hq : qforB d q with
 | false =>
  obtain ⟨e1,e2⟩:=h1 hq
  exact ⟨((0,[],[]),false),by rw [e1,ob_s,ob_s]; rfl,by rw [e2,ob_s]; rfl,noC_sm,fun h => (by cases h),fun _ => rfl⟩
 | true =>
  obtain ⟨g1,g2,g3⟩:=qfor_facts hq
  obtain ⟨q1,q2,-,q4⟩:=qry_facts g1
  obtain ⟨R,r1,r2,r3,e1,e2⟩:=h2 hq
  cases hr : relB (q.1,R) with
  | false =>
   rw [hr] at e1 e2
   refine ⟨((0,[],[]),false),?_,?_,noC_sm,fun h => (by cases h),fun _ => rfl⟩
   ·rw [e1,ob_s,ob_s,cond_false,Bool.not_true,cond_false,show (((0 : Int),([] : List (List Int))).1 != q.1) = true by rw [bne_iff_ne]; show (0 : Int) ≠ q.1; omega]; rfl
   ·rw [e2,ob_s]; rfl
  | true =>
   rw [hr] at e1 e2
   have hsm : smRows (q.1,R).2:=rel_smR hr
   have hc : smCnt (ofR (q.1,R)).1:=by
    unfold ofR
    rw [hr]
    exact ⟨hsm,by show (List.replicate R.length (1 : Int)).length <= lim; rw [List.length_replicate]; exact hsm.1⟩
   refine ⟨pjC (ofR (q.1,R)).1 q.2.2,?_,?_,proj_sm,fun h => ⟨proj_ok h,g1⟩,fun h => ?_⟩
   ·rw [e1,ob_s,ob_s,cond_true,Bool.not_true,cond_false,show ((q.1,R).1 != q.1) = false by simp,cond_false,s_cfr hsm,ob_s,s_proj hc hs.2.2,ob_s]
   ·rw [e2,ob_s,cond_true,Bool.not_true,cond_false,i_cfr hsm,ob_s,i_proj hc hs.2.2,ob_s]
    cases hb : (pjC (ofR (q.1,R)).1 q.2.2).2 with
    | false => rfl
    | true => rw [Bool.not_true,cond_false,i_copyQ hs,ob_s]; rfl
   ·unfold pjC at h ⊢
    cases hb : (cntB (ofR (q.1,R)).1 && (colsB (ofR (q.1,R)).1.1 q.2.2 && cntB (setR (q.2.2.length : Int) (prsL (ofR (q.1,R)).1 q.2.2)))) with
    | false => rfl
    | true => rw [hb] at h; cases h
theorem valid_same {v : Vw} (h : smDb d) (hs : smQ v.1) : ∃ b,spec_IsValidView d v = some b ∧ impl_IsValidView d v = some b:=by
 obtain ⟨x,e1,e2,x1,-,-⟩:=view_same h hs
 unfold spec_IsValidView impl_IsValidView
 rw [e1,e2,ob_s,ob_s]
 cases hx : x.2 with
 | false => exact ⟨false,rfl,rfl⟩
 | true =>
  refine ⟨cntEq x.1 v.2,?_,?_⟩
  ·rw [cond_true,s_cntEq x1,ob_s]; rfl
  ·rw [cond_true]; simp only []; rw [cond_true,i_cntEq x1,ob_s]; rfl
end
theorem rowsEq_iff {a b : List (List Int)} : rowsEq a b = true ↔ a = b:=by
 unfold rowsEq sameL
 rw [Bool.and_eq_true,beq_iff_eq,Bool.not_eq_true']
 constructor
 ·rintro ⟨h1,h2⟩
  refine List.ext_getElem (by omega) fun i hi hi' => ?_
  have:=badAny_f h2 hi
  rw [atB_lt hi'] at this
  simpa using this
 ·rintro rfl
  refine ⟨rfl,?_⟩
  unfold badAny
  rw [List.any_eq_false]
  intro i hi
  have hi:=List.mem_range.1 hi
  rw [atB_lt hi]
  show ¬ (!atB a i fun y => a[i] == y) = true
  rw [atB_lt hi]; simp
theorem cntEq_iff {a b : Cnt} : cntEq a b = true ↔ a = b:=by
 unfold cntEq
 rw [Bool.and_eq_true,Bool.and_eq_true,beq_iff_eq,beq_iff_eq,rowsEq_iff]
 constructor
 ·rintro ⟨h1,h2,h3⟩; exact Prod.ext h1 (Prod.ext h2 h3)
 ·rintro rfl; exact ⟨rfl,rfl,rfl⟩
theorem cntEq_comm (a b : Cnt) : cntEq a b = cntEq b a:=by
 rw [Bool.eq_iff_iff,cntEq_iff,cntEq_iff]
 exact ⟨Eq.symm,Eq.symm⟩
def smNtv (n : Ntf) : Prop:=smDb n.1 ∧ (n.2.1.length <= lim ∧ ∀ v ∈ n.2.1,smQ v.1 ∧ smCnt v.2) ∧ n.2.2.length <= lim ∧ ∀ c ∈ n.2.2,smCnt c
theorem ntv_same {n : Ntf} (h : smNtv n) : ∃ b,spec_IsValidNotifier n = some b ∧ impl_IsValidNotifier n = some b ∧ (b = true -> dbB n.1 = true ∧ n.2.1.length <= 4 ∧ n.2.2.length = n.2.1.length):=by
 obtain ⟨h1,⟨h2,h3⟩,h4,h5⟩:=h
 unfold spec_IsValidNotifier impl_IsValidNotifier
 rw [s_db h1,i_db h1,ob_s,ob_s]
 cases hd : dbB n.1 with
 | false => exact ⟨false,rfl,rfl,fun h => by cases h⟩
 | true =>
  simp only [Bool.not_true,cond_false]
  by_cases hl : n.2.2.length = n.2.1.length
  ·rw [show ((List.length n.2.1 : Int) != (List.length n.2.2 : Int)) = false by rw [bne_eq_false_iff_eq]; omega,show ((List.length n.2.2 : Int) != (List.length n.2.1 : Int)) = false by rw [bne_eq_false_iff_eq]; omega]
   simp only [cond_false]
   rcases Nat.lt_or_ge 4 n.2.1.length with h4' | h4'
   ·exact ⟨false,by rw [decide_eq_true (by omega)]; rfl,by rw [decide_eq_true (by omega)]; rfl,fun h => by cases h⟩
   ·rw [decide_eq_false (by omega)]
    simp only [cond_false]
    have hch : ∀ k (hk : k < n.2.1.length),∃ b,spec_IsValidView n.1 n.2.1[k] = some b ∧ impl_IsValidView n.1 n.2.1[k] = some b:=fun k hk => valid_same h1 (h3 _ (List.getElem_mem hk)).1
    let vb : Nat -> Bool:=fun k => ((n.2.1[k]?).bind fun v => spec_IsValidView n.1 v).getD false
    have hvb : ∀ k (hk : k < n.2.1.length),spec_IsValidView n.1 n.2.1[k] = some (vb k) ∧ impl_IsValidView n.1 n.2.1[k] = some (vb k):=fun k hk => by
     obtain ⟨b,e1,e2⟩:=hch k hk
     have : vb k = b:=by show ((n.2.1[k]?).bind fun v => spec_IsValidView n.1 v).getD false = b; rw [List.getElem?_eq_getElem hk]; show (spec_IsValidView n.1 n.2.1[k]).getD false = b; rw [e1]; rfl
     rw [this]; exact ⟨e1,e2⟩
    refine ⟨!(List.range n.2.1.length).any fun k => !vb k || !atB n.2.1 k fun v => atB n.2.2 k fun c => cntEq v.2 c,?_,?_,fun _ => ⟨(by first | rfl | exact trivial | exact hd),h4',hl⟩⟩
    ·rw [all_loop (fun k => !vb k || !atB n.2.1 k fun v => atB n.2.2 k fun c => cntEq v.2 c) h2 (fun k hk rec => by
      have hk' : k < n.2.2.length:=by omega
      unfold spec_IsValidNotifier_B1
      rw [lt_dec hk,cond_true,geti_at hk,ob_s,(hvb k hk).1,ob_s,geti_at hk',ob_s,ob_s,wrap_s hk (lim_max h2),atB_lt hk,atB_lt hk',s_cntEq (h3 _ (List.getElem_mem hk)).2,ob_s]
      cases vb k <;> cases cntEq n.2.1[k].2 n.2.2[k] <;> rfl) (fun rec => by unfold spec_IsValidNotifier_B1; rw [nlt_dec]; rfl)]
     cases (List.range n.2.1.length).any fun k => !vb k || !atB n.2.1 k fun v => atB n.2.2 k fun c => cntEq v.2 c <;> rfl
    ·rw [all_loop (fun k => !vb k || !atB n.2.1 k fun v => atB n.2.2 k fun c => cntEq v.2 c) h2 (fun k hk rec => by
      have hk' : k < n.2.2.length:=by omega
      unfold impl_IsValidNotifier_B1
      rw [lt_dec hk,cond_true,geti_at hk,ob_s,(hvb k hk).2,ob_s,geti_at hk',ob_s,wrap_s hk (lim_max h2),atB_lt hk,atB_lt hk',i_cntEq (h5 _ (List.getElem_mem hk')),ob_s,cntEq_comm]
      cases vb k <;> cases cntEq n.2.1[k].2 n.2.2[k] <;> rfl) (fun rec => by unfold impl_IsValidNotifier_B1; rw [nlt_dec]; rfl)]
     cases (List.range n.2.1.length).any fun k => !vb k || !atB n.2.1 k fun v => atB n.2.2 k fun c => cntEq v.2 c <;> rfl
  ·rw [show ((List.length n.2.1 : Int) != (List.length n.2.2 : Int)) = true by rw [bne_iff_ne]; omega,show ((List.length n.2.2 : Int) != (List.length n.2.1 : Int)) = true by rw [bne_iff_ne]; omega]
   refine ⟨false,rfl,?_,fun h => by cases h⟩
   cases decide (4 < (List.length n.2.1 : Int)) <;> rfl
end Go.Proofs.YtceghmdneadhbaaGreat
