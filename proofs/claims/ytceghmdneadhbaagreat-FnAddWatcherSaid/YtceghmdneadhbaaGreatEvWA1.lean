/-
 A new view's rows are what the query's evaluation gives. On the printed functions; conditions: lengths.
-/
import Derived.Test.YtceghmdneadhbaaGreatNsWA1
import Derived.Test.YtceghmdneadhbaaGreatWrWA1
-- pure
namespace Go.Proofs.YtceghmdneadhbaaGreat
open Go.RowKit
set_option linter.unusedVariables false
set_option linter.unusedSimpArgs false
theorem sumC_pos {z : Row} : ∀ {l : List Pr},(∀ p ∈ l,1 <= p.2) -> 0 <= sumC l z ∧ ((∃ p ∈ l,p.1 = z) -> 1 <= sumC l z)
 | [],_ => ⟨Int.le_refl _,fun ⟨p,hp,_⟩ => by cases hp⟩
 | p :: l,h => by
  have h1:=h p (List.mem_cons_self ..)
  obtain ⟨h2,h3⟩:=sumC_pos (z:=z) fun q hq => h q (List.mem_cons_of_mem _ hq)
  rw [sumC]
  refine ⟨by split <;> omega,fun ⟨q,hq,e⟩ => ?_⟩
  by_cases hp : p.1 = z
  ·rw [if_pos hp]; omega
  ·rw [if_neg hp]
   rcases List.mem_cons.1 hq with rfl | hq
   ·exact absurd e hp
   ·have:=h3 ⟨q,hq,e⟩; omega
section
variable {d : List Tbl} {q : Qry}
theorem z_full (h : smDb d) (hs : smQ q) (hz : (zOf d q).2 = true) : qforB d q = true ∧ ∃ R,relB (q.1,R) = true ∧ spec_AllBindings d q = some (q.1,R) ∧ zOf d q = pjC (ofR (q.1,R)).1 q.2.2:=by
 obtain ⟨h1,h2⟩:=all_same h hs
 have hz' : ∀ y,spec_l28Z d q = some y -> zOf d q = y:=fun y e => by unfold zOf; rw [e]; rfl
 cases hq : qforB d q with
 | false =>
  obtain ⟨e1,-⟩:=h1 hq
  have : spec_l28Z d q = some ((0,[],[]),false):=by unfold spec_l28Z; rw [s_qfor h hs,hq,e1,ob_s,ob_s]; rfl
  rw [hz' _ this] at hz; cases hz
 | true =>
  obtain ⟨g1,g2,g3⟩:=qfor_facts hq
  obtain ⟨q1,q2,-,q4⟩:=qry_facts g1
  obtain ⟨R,r1,r2,r3,e1,-⟩:=h2 hq
  cases hr : relB (q.1,R) with
  | false =>
   rw [hr] at e1
   have : spec_l28Z d q = some ((0,[],[]),false):=by
    unfold spec_l28Z
    rw [s_qfor h hs,hq,e1,ob_s,ob_s,cond_false,Bool.not_true,cond_false,show (((0 : Int),([] : List (List Int))).1 != q.1) = true by rw [bne_iff_ne]; show (0 : Int) ≠ q.1; omega]; rfl
   rw [hz' _ this] at hz; cases hz
  | true =>
   rw [hr] at e1
   have hsm : smRows (q.1,R).2:=rel_smR hr
   have hc : smCnt (ofR (q.1,R)).1:=by
    unfold ofR
    rw [hr]
    exact ⟨hsm,by show (List.replicate R.length (1 : Int)).length <= lim; rw [List.length_replicate]; exact hsm.1⟩
   have : spec_l28Z d q = some (pjC (ofR (q.1,R)).1 q.2.2):=by
    unfold spec_l28Z
    rw [s_qfor h hs,hq,e1,ob_s,ob_s,cond_true,Bool.not_true,cond_false,show ((q.1,R).1 != q.1) = false by simp,cond_false,s_cfr hsm,ob_s,s_proj hc hs.2.2,ob_s]
   exact ⟨rfl,R,hr,e1,hz' _ this⟩
theorem eval_same (h : smDb d) (hs : smQ q) (hz : (zOf d q).2 = true) : ∃ r : Rln,spec_EvaluateQuery d q = some (r,true) ∧ rowsB (zOf d q).1 = (r,true) ∧ smRows r.2:=by
 obtain ⟨hq,R,hr,e1,e2⟩:=z_full h hs hz
 obtain ⟨c,hcd⟩ : ∃ c,c = (ofR (q.1,R)).1:=⟨_,rfl⟩
 have hcv : c = (q.1,R,List.replicate R.length 1):=by rw [hcd]; unfold ofR; rw [hr]; rfl
 rw [<- hcd] at e2
 have hp : (pjC c q.2.2).2 = true:=by rw [<- e2]; exact hz
 have hb : (cntB c && (colsB c.1 q.2.2 && cntB (setR (q.2.2.length : Int) (prsL c q.2.2)))) = true:=by
  unfold pjC at hp
  cases hb : (cntB c && (colsB c.1 q.2.2 && cntB (setR (q.2.2.length : Int) (prsL c q.2.2)))) with
  | false => rw [hb] at hp; cases hp
  | true => rfl
 have e3 : pjC c q.2.2 = (setR (q.2.2.length : Int) (prsL c q.2.2),true):=by unfold pjC; rw [hb]; rfl
 simp only [Bool.and_eq_true] at hb
 obtain ⟨b1,b2,b3⟩:=hb
 obtain ⟨c5,hin⟩:=cols_in b1 b2
 obtain ⟨-,f2,f3,f4,f5,f6,f7⟩:=cnt_facts b1
 have hok:=prs_ok b1 c5
 have hpos : ∀ p ∈ prsL c q.2.2,1 <= p.2:=fun p hp => by
  obtain ⟨k,hk,rfl⟩:=List.mem_iff_getElem.1 hp
  rw [prs_len b1] at hk
  obtain ⟨h1,h2,e⟩:=prs_at (cols:=q.2.2) b1 hk
  rw [e]
  have : c.2.2 = List.replicate R.length 1:=by rw [hcv]
  have h3 : c.2.2[k] = 1:=List.eq_of_mem_replicate (n:=R.length) (by rw [<- this]; exact List.getElem_mem h2)
  show 1 <= c.2.2[k]
  omega
 have hk1 : ∀ z ∈ keysL (prsL c q.2.2),1 <= sumC (prsL c q.2.2) z:=fun z hz => (sumC_pos hpos).2 (keys_mem.1 hz)
 have hfil : (keysL (prsL c q.2.2)).filter (nzB (prsL c q.2.2)) = keysL (prsL c q.2.2):=List.filter_eq_self.2 fun z hz => by
  have:=hk1 z hz
  unfold nzB
  rw [bne_iff_ne]; omega
 have hkeys : keysL (prsL c q.2.2) = sortB (R.map fun r => pickB r q.2.2):=by
  unfold keysL
  rw [prs_fst b1,hcv]
 refine ⟨((q.2.2.length : Int),sortB (R.map fun r => pickB r q.2.2)),?_,?_,?_⟩
 ·have hc1 : c.1 = q.1:=by rw [hcv]
  have hc2 : c.2.1 = R:=by rw [hcv]
  rw [hc2] at f3 f4 hin
  have hl : q.2.2.length <= lim:=hs.2.2
  have hcb : ((List.range q.2.2.length).any fun k => atB q.2.2 k fun e => !btw e 0 (IntKind.i64.wrap (q.1 - 1))) = false:=by
   have b2':=b2
   unfold colsB badAny at b2'
   rw [hc1] at b2'
   simp only [Bool.and_eq_true,Bool.not_eq_true'] at b2'
   exact b2'.1
  have hsm : smRows (q.1,R).2:=rel_smR hr
  have hproj : spec_Project (q.1,R) q.2.2 = some (((q.2.2.length : Int),sortB (R.map fun r => pickB r q.2.2)),true):=by
   unfold spec_Project
   rw [bad_loop (fun k => atB q.2.2 k fun e => !btw e 0 (IntKind.i64.wrap (q.1 - 1))) (((0,[]),false) : Rln × Bool) hl (fun k hk rec => by
    unfold spec_Project_B1
    rw [lt_dec hk,geti_at hk,wrap_s hk (lim_max hl),atB_lt hk]
    simp only [cond_true,obind,s_l1In]) (fun rec => by unfold spec_Project_B1; rw [nlt_dec]; rfl),ob_s,hcb]
   simp only [cond_false]
   rw [s_rel hsm,ob_s,hr,Bool.not_true,cond_false,decide_eq_false (by omega),cond_false]
   have hml:=map_loop (a:=R) (h:=fun r => pickB r q.2.2) (B:=spec_Project_B2 (q.1,R) q.2.2) hsm.1 (fun k hk rec => by
    simp only [spec_Project_B2]
    rw [lt_dec hk,cond_true,geti_at hk,ob_s,s_cols hl (hin _ (List.getElem_mem hk)),ob_s,chk_pos (by simp only [List.length_singleton,List.length_map,List.length_take]; unfold lim; omega),wrap_s hk (lim_max hsm.1)]) (fun rec y => by simp only [spec_Project_B2]; rw [nlt_dec,cond_false])
   have hpr : ∀ r ∈ R.map (fun r => pickB r q.2.2),(r.length : Int) = (q.2.2.length : Int) ∧ avvB r = true:=fun r hr => by
    obtain ⟨x,hx,rfl⟩:=List.mem_map.1 hr
    exact ⟨by simp only [pickB,List.length_map],pkv_ok (f4 x hx).2 (hin x hx)⟩
   have hnr : nrB (q.2.2.length : Int) (R.map fun r => pickB r q.2.2) = (((q.2.2.length : Int),sortB (R.map fun r => pickB r q.2.2)),true):=nr_ok (by unfold btw; simp; omega) (by rw [List.length_map]; exact f3) hpr
   rw [hml,ob_s,s_nr ⟨by rw [List.length_map]; exact hsm.1,fun r hr => by have:=(hpr r hr).1; omega⟩,hnr,ob_s]
  unfold spec_EvaluateQuery
  rw [e1,ob_s,s_qfor h hs,ob_s,hq,Bool.not_true,cond_false,show ((q.1,R).1 != q.1) = false by simp,cond_false,hproj,ob_s]
 ·rw [e2,e3]
  unfold rowsB
  rw [b3]
  have hneg : (badAny (setR (q.2.2.length : Int) (prsL c q.2.2)).2.2 fun _ n => decide (n < 0)) = false:=badAny_of fun i hi => by
   refine decide_eq_false ?_
   have hm:=List.getElem_mem hi
   generalize (setR (q.2.2.length : Int) (prsL c q.2.2)).2.2[i] = n at hm
   obtain ⟨z,hz,rfl⟩:=List.mem_map.1 hm
   have:=hk1 z (List.mem_filter.1 hz).1
   omega
  rw [hneg]
  show (((q.2.2.length : Int),(keysL (prsL c q.2.2)).filter (nzB (prsL c q.2.2))),true) = _
  rw [hfil,hkeys]
 ·show smRows (sortB (R.map fun r => pickB r q.2.2))
  rw [<- hkeys]
  exact keys_sm hok
end
theorem wr_at {n : Ntf} (h : smNtv n) (hn : ntB n = true) {k : Nat} (hk : k < n.2.1.length) : impl_WatcherRows n (k : Int) = some (rowsB n.2.1[k].2):=by
 obtain ⟨b,e1,e2,-⟩:=ntv_same h
 rw [s_ntB h,hn] at e1
 have hb : b = true:=by injection e1 with e1; exact e1.symm
 subst hb
 obtain ⟨f1,f2,f3,f4⟩:=nt_facts hn
 have hv:=h.2.1.2 _ (List.getElem_mem hk)
 have hbt : btw (k : Int) 0 (IntKind.i64.wrap ((List.length n.2.1 : Int) - 1)) = true:=by
  rw [wrap_in (by omega)]
  unfold btw
  simp only [Bool.and_eq_true,decide_eq_true_eq]
  omega
 unfold impl_WatcherRows impl_ViewRows
 rw [e2,ob_s,Bool.not_true,cond_false,i_within,ob_s,hbt,Bool.not_true,cond_false,geti_at hk,ob_s,i_roc hv.2]
 rfl
end Go.Proofs.YtceghmdneadhbaaGreat
