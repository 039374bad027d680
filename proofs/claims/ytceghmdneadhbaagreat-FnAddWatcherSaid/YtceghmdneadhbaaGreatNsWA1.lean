/-
 Changes of counted relations and of views: the reference. On the printed functions; conditions: lengths, numbers in range.
-/
import Derived.Test.YtceghmdneadhbaaGreatAwWA1
-- pure
namespace Go.Proofs.YtceghmdneadhbaaGreat
open Go.RowKit
set_option linter.unusedVariables false
set_option linter.unusedSimpArgs false
def prC (c : Cnt) : List Pr:=c.2.1.zip c.2.2
def addL2 (a b : Cnt) : List Pr:=prC a ++ prC b
def addR (a b : Cnt) : Cnt × Bool:=cond (cntB a && (cntB b && ((a.1 == b.1) && (relB (a.1,keysL (addL2 a b)) && cntB (setR a.1 (addL2 a b)))))) (setR a.1 (addL2 a b),true) ((0,[],[]),false)
theorem prc_ok {c : Cnt} (h : cntB c = true) : (prC c).length = c.2.1.length ∧ (prC c).map (·.1) = c.2.1 ∧ ∀ p ∈ prC c,p.1 ∈ c.2.1 ∧ p.2 ∈ c.2.2:=by
 have f2:=(cnt_facts h).2.1
 refine ⟨by unfold prC; rw [List.length_zip]; omega,by unfold prC; rw [<- List.unzip_fst,List.unzip_zip f2],fun p hp => ?_⟩
 obtain ⟨a,b⟩:=p
 exact List.of_mem_zip hp
theorem add_ok {a b : Cnt} (ha : cntB a = true) (hb : cntB b = true) : OkL (addL2 a b):=by
 obtain ⟨-,a2,a3,a4,-,a6,a7⟩:=cnt_facts ha
 obtain ⟨-,b2,b3,b4,-,b6,b7⟩:=cnt_facts hb
 obtain ⟨p1,p2,p3⟩:=prc_ok ha
 obtain ⟨q1,q2,q3⟩:=prc_ok hb
 refine ⟨by unfold addL2; rw [List.length_append]; omega,fun p hp => ?_⟩
 rcases List.mem_append.1 hp with hp | hp
 ·obtain ⟨h1,h2⟩:=p3 p hp
  exact ⟨by have:=(a4 _ h1).1; unfold lim; omega,a7 _ h2⟩
 ·obtain ⟨h1,h2⟩:=q3 p hp
  exact ⟨by have:=(b4 _ h1).1; unfold lim; omega,b7 _ h2⟩
theorem add_keys {a b : Cnt} (ha : cntB a = true) (hb : cntB b = true) : keysL (addL2 a b) = sortB (a.2.1 ++ b.2.1):=by
 unfold keysL addL2
 rw [List.map_append,(prc_ok ha).2.1,(prc_ok hb).2.1]
theorem s_add {a b : Cnt} (h1 : smCnt a) (h2 : smCnt b) : spec_AddCounted a b = some (addR a b):=by
 unfold spec_AddCounted addR
 rw [s_cnt h1,ob_s]
 cases ha : cntB a with
 | false => rfl
 | true =>
  rw [Bool.not_true,cond_false,s_cnt h2,ob_s]
  cases hb : cntB b with
  | false => rfl
  | true =>
   obtain ⟨-,a2,a3,a4,a5,a6,a7⟩:=cnt_facts ha
   obtain ⟨-,b2,b3,b4,-,b6,b7⟩:=cnt_facts hb
   rw [Bool.not_true,cond_false]
   cases he : a.1 == b.1 with
   | false => rw [bne,he]; rfl
   | true =>
    have hab : a.1 = b.1:=by simpa using he
    rw [bne,he,Bool.not_true,cond_false]
    simp only [List.nil_append]
    rw [chk_pos (by rw [List.length_nil]; unfold lim; omega),chk_pos (by unfold lim; omega),chk_pos (by rw [List.length_nil]; unfold lim; omega),chk_pos (by unfold lim; omega)]
    have hz : (a.2.1 ++ b.2.1).zip (a.2.2 ++ b.2.2) = addL2 a b:=by unfold addL2 prC; exact List.zip_append a2
    have hok:=add_ok ha hb
    have hrows : ∀ r ∈ a.2.1 ++ b.2.1,(r.length : Int) = a.1 ∧ avvB r = true:=fun r hr => by
     rcases List.mem_append.1 hr with hr | hr
     ·exact a4 r hr
     ·rw [hab]; exact b4 r hr
    have hbad : badAny (a.2.1 ++ b.2.1) (fun _ x => nrBad a.1 x) = false:=badAny_of fun i hi => by
     have h1:=hrows _ (List.getElem_mem hi)
     unfold nrBad
     rw [h1.2,h1.1]; simp
    have hk:=add_keys ha hb
    cases hr : relB (a.1,keysL (addL2 a b)) with
    | true =>
     have hn : nrB a.1 (a.2.1 ++ b.2.1) = ((a.1,sortB (a.2.1 ++ b.2.1)),true):=by
      unfold nrB
      rw [hbad,<- hk,hr]; rfl
     rw [s_sum hn (by rw [List.length_append,List.length_append]; omega) (by rw [hz]; exact hok),ob_s,hz]
     cases cntB (setR a.1 (addL2 a b)) <;> rfl
    | false =>
     have hn : nrB a.1 (a.2.1 ++ b.2.1) = ((0,[]),false):=by
      unfold nrB
      rw [hbad,<- hk,hr]; rfl
     have hsm : smRows (a.2.1 ++ b.2.1):=⟨by rw [List.length_append]; unfold lim; omega,fun r hr => by have:=(hrows r hr).1; unfold lim; omega⟩
     unfold spec_l27Sum
     rw [s_nr hsm,ob_s,hn]
     rfl
theorem add_sm {a b : Cnt} : smCnt (addR a b).1:=by
 unfold addR
 cases ha : cntB a with
 | false => exact noC_sm
 | true =>
  cases hb : cntB b with
  | false => exact noC_sm
  | true =>
   cases a.1 == b.1 with
   | false => exact noC_sm
   | true =>
    cases relB (a.1,keysL (addL2 a b)) with
    | false => exact noC_sm
    | true =>
     cases cntB (setR a.1 (addL2 a b)) with
     | false => exact noC_sm
     | true => exact set_smC (add_ok ha hb)
theorem add_facts {a b : Cnt} (h : (addR a b).2 = true) : cntB a = true ∧ cntB b = true ∧ a.1 = b.1 ∧ cntB (addR a b).1 = true ∧ (addR a b).1 = setR a.1 (addL2 a b):=by
 unfold addR at h ⊢
 cases hb : (cntB a && (cntB b && ((a.1 == b.1) && (relB (a.1,keysL (addL2 a b)) && cntB (setR a.1 (addL2 a b)))))) with
 | false => rw [hb] at h; cases h
 | true =>
  simp only [Bool.and_eq_true,beq_iff_eq] at hb
  exact ⟨hb.1,hb.2.1,hb.2.2.1,hb.2.2.2.2,rfl⟩
def zOf (d : List Tbl) (q : Qry) : Cnt × Bool:=(spec_l28Z d q).getD ((0,[],[]),false)
section
variable {d : List Tbl} {q : Qry} {x : Dlt}
theorem z_is (h : smDb d) (hs : smQ q) : spec_l28Z d q = some (zOf d q) ∧ impl_NewView d q = some (cond (zOf d q).2 ((q,(zOf d q).1),true) (((0,[],[]),(0,[],[])),false)) ∧ smCnt (zOf d q).1 ∧ ((zOf d q).2 = true -> cntB (zOf d q).1 = true ∧ qryB q = true) ∧ ((zOf d q).2 = false -> (zOf d q).1 = (0,[],[])):=by
 obtain ⟨y,e1,e2,y1,y2,y3⟩:=view_same h hs
 have : zOf d q = y:=by unfold zOf; rw [e1]; rfl
 rw [this]
 exact ⟨e1,e2,y1,y2,y3⟩
def okVw (d : List Tbl) (v : Vw) : Bool:=(zOf d v.1).2 && cntEq (zOf d v.1).1 v.2
theorem s_okVw {v : Vw} (h : smDb d) (hs : smQ v.1) : spec_IsValidView d v = some (okVw d v):=by
 obtain ⟨e1,-,y1,-,-⟩:=z_is h hs
 unfold spec_IsValidView okVw
 rw [e1,ob_s]
 cases (zOf d v.1).2 with
 | false => rfl
 | true => rw [cond_true,s_cntEq y1,ob_s]; rfl
def ntB (n : Ntf) : Bool:=dbB n.1 && (((n.2.1.length : Int) == (n.2.2.length : Int)) && (!decide (4 < (n.2.1.length : Int)) && !badAny n.2.1 fun k v => !okVw n.1 v || !atB n.2.2 k fun c => cntEq v.2 c))
theorem s_ntB {n : Ntf} (h : smNtv n) : spec_IsValidNotifier n = some (ntB n):=by
 obtain ⟨h1,⟨h2,h3⟩,h4,h5⟩:=h
 unfold spec_IsValidNotifier ntB badAny
 rw [s_db h1,ob_s]
 cases dbB n.1 with
 | false => rfl
 | true =>
  rw [Bool.not_true,cond_false,Bool.true_and,bne]
  cases hl : (n.2.1.length : Int) == (n.2.2.length : Int) with
  | false => rfl
  | true =>
   have hl' : n.2.1.length = n.2.2.length:=len_nat hl
   rw [Bool.not_true,cond_false,Bool.true_and]
   cases decide (4 < (n.2.1.length : Int)) with
   | true => rfl
   | false =>
    rw [cond_false,all_loop (fun k => atB n.2.1 k fun v => !okVw n.1 v || !atB n.2.2 k fun c => cntEq v.2 c) h2 (fun k hk rec => by
     have hk' : k < n.2.2.length:=by omega
     have hv:=h3 _ (List.getElem_mem hk)
     unfold spec_IsValidNotifier_B1
     rw [lt_dec hk,cond_true,geti_at hk,ob_s,s_okVw h1 hv.1,ob_s,geti_at hk',ob_s,ob_s,wrap_s hk (lim_max h2),atB_lt hk,atB_lt hk',s_cntEq hv.2,ob_s]
     cases okVw n.1 n.2.1[k] <;> cases cntEq n.2.1[k].2 n.2.2[k] <;> rfl) (fun rec => by unfold spec_IsValidNotifier_B1; rw [nlt_dec]; rfl)]
    cases (List.range n.2.1.length).any fun k => atB n.2.1 k fun v => !okVw n.1 v || !atB n.2.2 k fun c => cntEq v.2 c <;> rfl
theorem nt_facts {n : Ntf} (h : ntB n = true) : dbB n.1 = true ∧ n.2.1.length <= 4 ∧ n.2.2 = n.2.1.map (·.2) ∧ ∀ v ∈ n.2.1,zOf n.1 v.1 = (v.2,true):=by
 unfold ntB at h
 simp only [Bool.and_eq_true,Bool.not_eq_true',decide_eq_false_iff_not] at h
 obtain ⟨h1,h2,h3,h4⟩:=h
 have hl : n.2.1.length = n.2.2.length:=len_nat h2
 have hk : ∀ k (hk : k < n.2.1.length),zOf n.1 n.2.1[k].1 = (n.2.1[k].2,true) ∧ n.2.1[k].2 = n.2.2[k]'(by omega):=fun k hk => by
  have:=badAny_f h4 hk
  rw [atB_lt (by omega)] at this
  simp only [Bool.or_eq_false_iff,Bool.not_eq_false'] at this
  obtain ⟨g1,g2⟩:=this
  unfold okVw at g1
  rw [Bool.and_eq_true,cntEq_iff] at g1
  exact ⟨Prod.ext g1.2 g1.1,cntEq_iff.1 g2⟩
 refine ⟨h1,by omega,List.ext_getElem (by rw [List.length_map]; omega) fun i h5 h6 => ?_,fun v hv => ?_⟩
 ·rw [List.getElem_map]; exact ((hk i (by omega)).2).symm
 ·obtain ⟨k,hk',rfl⟩:=List.mem_iff_getElem.1 hv
  exact (hk k hk').1
theorem nt_of {n : Ntf} (h1 : dbB n.1 = true) (h2 : n.2.1.length <= 4) (h3 : n.2.2 = n.2.1.map (·.2)) (h4 : ∀ v ∈ n.2.1,zOf n.1 v.1 = (v.2,true)) : ntB n = true:=by
 have hl : n.2.2.length = n.2.1.length:=by rw [h3,List.length_map]
 unfold ntB
 simp only [Bool.and_eq_true,Bool.not_eq_true',decide_eq_false_iff_not,beq_iff_eq]
 refine ⟨h1,by omega,by omega,badAny_of fun i hi => ?_⟩
 have hi' : i < n.2.2.length:=by omega
 rw [atB_lt hi']
 have e : n.2.2[i] = n.2.1[i].2:=by simp only [h3,List.getElem_map]
 have:=h4 _ (List.getElem_mem hi)
 unfold okVw
 rw [this,e,cntEq_iff.2 rfl]; rfl
def vdR (d : List Tbl) (q : Qry) (x : Dlt) : Cnt × Bool:=cond ((applB d x).2 && ((zOf d q).2 && (zOf (applB d x).1 q).2)) (addR (zOf (applB d x).1 q).1 (negC (zOf d q).1)) ((0,[],[]),false)
theorem app_smA (h : smDb d) (hd : d.length < lim) (hx : smD x) : smDb (applB d x).1:=by
 unfold applB
 simp only
 cases (normB d x).2 with
 | false => exact h
 | true =>
  simp only [Bool.not_true,cond_false]
  cases hu : (unR (difR (lookB d x.1).1 (normB d x).1.2.2).1 (normB d x).1.2.1).2 with
  | false => exact h
  | true => exact setB_sm h hd hx.1 un_ok.1
theorem s_vd (h : smDb d) (hd : d.length < lim) (hx : smD x) (hq : smQ q) : spec_ViewDelta d q x = some (vdR d q x):=by
 obtain ⟨z1,-,z2,-,-⟩:=z_is h hq
 obtain ⟨y1,-,y2,-,-⟩:=z_is (app_smA h hd hx) hq
 unfold spec_ViewDelta vdR
 rw [s_app h hd hx,ob_s,z1,ob_s,y1,ob_s]
 cases (applB d x).2 with
 | false => rfl
 | true =>
  rw [Bool.not_true,cond_false,Bool.true_and]
  cases (zOf d q).2 with
  | false => rfl
  | true =>
   rw [Bool.not_true,cond_false,Bool.true_and]
   cases (zOf (applB d x).1 q).2 with
   | false => rfl
   | true => rw [Bool.not_true,cond_false,s_neg z2,ob_s,s_add y2 (negC_sm z2),ob_s]; rfl
theorem vd_sm : smCnt (vdR d q x).1:=by
 unfold vdR
 cases ((applB d x).2 && ((zOf d q).2 && (zOf (applB d x).1 q).2)) with
 | false => exact noC_sm
 | true => exact add_sm
def avR (v : Vw) (d : List Tbl) (x : Dlt) : Vw × Bool:=cond ((vdR d v.1 x).2 && (okVw d v && (addR v.2 (vdR d v.1 x).1).2)) ((v.1,(addR v.2 (vdR d v.1 x).1).1),true) (((0,[],[]),(0,[],[])),false)
theorem s_av2 {v : Vw} (h : smDb d) (hd : d.length < lim) (hx : smD x) (hv : smQ v.1 ∧ smCnt v.2) : spec_ApplyToView v d x = some (avR v d x):=by
 unfold spec_ApplyToView avR
 rw [s_vd h hd hx hv.1,ob_s]
 cases (vdR d v.1 x).2 with
 | false => rfl
 | true =>
  rw [Bool.not_true,cond_false,s_okVw h hv.1,ob_s,Bool.true_and]
  cases okVw d v with
  | false => rfl
  | true =>
   rw [Bool.not_true,cond_false,s_add hv.2 vd_sm,ob_s,Bool.true_and]
   cases (addR v.2 (vdR d v.1 x).1).2 with
   | false => rfl
   | true => rw [Bool.not_true,cond_false,s_copyQ hv.1,ob_s]; rfl
def okCh (d : List Tbl) (x : Dlt) (v : Vw) : Bool:=(vdR d v.1 x).2 && (addR v.2 (vdR d v.1 x).1).2
def newC (d : List Tbl) (x : Dlt) (v : Vw) : Cnt:=(addR v.2 (vdR d v.1 x).1).1
def ncR (n : Ntf) (x : Dlt) : Ntf × List Cnt × Bool:=cond (ntB n && ((applB n.1 x).2 && n.2.1.all (okCh n.1 x))) (((applB n.1 x).1,n.2.1.map fun v => (v.1,newC n.1 x v),n.2.1.map (newC n.1 x)),n.2.1.map fun v => (vdR n.1 v.1 x).1,true) (n,[],false)
theorem put_k {α : Type} {f : α -> α} {l : List α} {k : Nat} (hk : k < l.length) : ((l.take k).map f ++ l.drop k).set k (f l[k]) = (l.take (k + 1)).map f ++ l.drop (k + 1):=by
 have hl : ((l.take k).map f).length = k:=by rw [List.length_map,List.length_take]; omega
 rw [List.set_append_right _ _ (by omega),hl,Nat.sub_self,List.drop_eq_getElem_cons hk,List.set_cons_zero,take_snoc hk,List.map_append,List.append_assoc]
 rfl
theorem put_k2 {α β : Type} {f g : α -> β} {l : List α} {k : Nat} (hk : k < l.length) : ((l.take k).map f ++ (l.drop k).map g).set k (f l[k]) = (l.take (k + 1)).map f ++ (l.drop (k + 1)).map g:=by
 have hl : ((l.take k).map f).length = k:=by rw [List.length_map,List.length_take]; omega
 rw [List.set_append_right _ _ (by omega),hl,Nat.sub_self,List.drop_eq_getElem_cons hk,List.map_cons,List.set_cons_zero,take_snoc hk,List.map_append,List.append_assoc]
 rfl
theorem geti_k {α : Type} {A B : List α} {k : Nat} (hk : k < (A ++ B).length) : ∃ e,geti (A ++ B) (k : Int) = some e:=⟨_,geti_at hk⟩
theorem s_nc {n : Ntf} (h : smNtv n) (hI : ntI n) (hd : n.1.length < lim) (hx : smD x) : spec_NotifyChange n x = some (ncR n x):=by
 unfold spec_NotifyChange ncR
 rw [s_copyN h hI,ob_s,s_app h.1 hd hx,ob_s,s_ntB h,ob_s]
 cases hn : ntB n with
 | false => rfl
 | true =>
  obtain ⟨f1,f2,f3,f4⟩:=nt_facts hn
  rw [Bool.not_true,cond_false,Bool.true_and]
  cases happ : (applB n.1 x).2 with
  | false => rfl
  | true =>
   rw [Bool.not_true,cond_false,Bool.true_and]
   have hdl : n.2.2.length = n.2.1.length:=by rw [f3,List.length_map]
   obtain ⟨o,e,ho⟩:=loop_wh (B:=spec_NotifyChange_B1 n x) (fun s => ∃ k : Nat,k <= n.2.1.length ∧ s = ((n.2.1.take k).map (fun v => (vdR n.1 v.1 x).1),(n.2.1.take k).map (fun v => (v.1,newC n.1 x v)) ++ n.2.1.drop k,(n.2.1.take k).map (newC n.1 x) ++ (n.2.1.drop k).map (·.2),(k : Int)) ∧ (n.2.1.take k).all (okCh n.1 x) = true) (fun s => n.2.1.length - s.2.2.2.toNat)
    (fun o => o = cond (n.2.1.all (okCh n.1 x)) (.inl (n.2.1.map (fun v => (vdR n.1 v.1 x).1),n.2.1.map (fun v => (v.1,newC n.1 x v)),n.2.1.map (newC n.1 x))) (.inr (n,[],false))) (fun s hs => by
    obtain ⟨k,hk,rfl,hall⟩:=hs
    by_cases hlt : k < n.2.1.length
    ·have hv:=h.2.1.2 _ (List.getElem_mem hlt)
     have hk2 : k < n.2.2.length:=by omega
     have hdk : n.2.2[k] = n.2.1[k].2:=by simp only [f3,List.getElem_map]
     have hok : okVw n.1 n.2.1[k] = true:=by
      unfold okVw
      rw [f4 _ (List.getElem_mem hlt),cntEq_iff.2 rfl]; rfl
     have hW : IntKind.i64.wrap ((k : Int) + 1) = ((k + 1 : Nat) : Int):=wrap_s hlt (lim_max h.2.1.1)
     have hav : (avR n.2.1[k] n.1 x) = cond (okCh n.1 x n.2.1[k]) ((n.2.1[k].1,newC n.1 x n.2.1[k]),true) (((0,[],[]),(0,[],[])),false):=by
      unfold avR okCh newC
      rw [hok,Bool.true_and]
     have hB : ∀ rec y1 y2 y3,spec_NotifyChange_B1 n x rec (y1,y2,y3,(k : Int)) = spec_NotifyChange_J2 rec n y1 y2 y3 (k : Int) (vdR n.1 n.2.1[k].1 x) (avR n.2.1[k] n.1 x) (addR n.2.1[k].2 (vdR n.1 n.2.1[k].1 x).1) (!okCh n.1 x n.2.1[k]):=fun rec y1 y2 y3 => by
      simp only [spec_NotifyChange_B1]
      rw [lt_dec hlt,cond_true,geti_at hlt,ob_s,s_vd h.1 hd hx hv.1,ob_s,ob_s,s_av2 h.1 hd hx hv,ob_s,geti_at hk2,ob_s,hdk,s_add hv.2 vd_sm,ob_s,hav]
      unfold okCh
      cases (vdR n.1 n.2.1[k].1 x).2 with
      | false => rfl
      | true =>
       cases (addR n.2.1[k].2 (vdR n.1 n.2.1[k].1 x).1).2 <;> rfl
     cases hc : okCh n.1 x n.2.1[k] with
     | false =>
      left
      refine ⟨_,rfl,fun rec => ?_⟩
      have hf : n.2.1.all (okCh n.1 x) = false:=by
       cases ha : n.2.1.all (okCh n.1 x) with
       | false => rfl
       | true => rw [List.all_eq_true.1 ha _ (List.getElem_mem hlt)] at hc; cases hc
      rw [hf,hB,hc]
      unfold spec_NotifyChange_J2
      rw [Bool.not_false,cond_true,s_copyN h hI,ob_s]; rfl
     | true =>
      right
      refine ⟨_,⟨k + 1,hlt,rfl,by rw [take_snoc hlt,List.all_append,hall,List.all_cons,hc]; rfl⟩,by simp only [Int.toNat_natCast]; omega,fun rec => ?_⟩
      have l1 : ((n.2.1.take k).map (fun v => (v.1,newC n.1 x v)) ++ n.2.1.drop k).length = n.2.1.length:=by rw [List.length_append,List.length_map,List.length_take,List.length_drop]; omega
      have l2 : ((n.2.1.take k).map (newC n.1 x) ++ (n.2.1.drop k).map (·.2)).length = n.2.1.length:=by rw [List.length_append,List.length_map,List.length_map,List.length_take,List.length_drop]; omega
      obtain ⟨a1,g1⟩:=geti_k (A:=(n.2.1.take k).map (fun v => (v.1,newC n.1 x v))) (B:=n.2.1.drop k) (k:=k) (by rw [l1]; exact hlt)
      obtain ⟨a2,g2⟩:=geti_k (A:=(n.2.1.take k).map (newC n.1 x)) (B:=(n.2.1.drop k).map (·.2)) (k:=k) (by rw [l2]; exact hlt)
      rw [hB,hc,hav,hc]
      unfold spec_NotifyChange_J2
      rw [Bool.not_true,cond_false,chk_pos (by rw [l1]; omega),g1,ob_s,chk_pos (by rw [l2]; omega),g2,ob_s,chk_pos (by rw [List.length_map,List.length_take,List.length_singleton]; unfold lim; omega),hW]
      unfold seti
      rw [Int.toNat_natCast,take_snoc hlt,List.map_append]
      have p1:=put_k (f:=fun v : Vw => (v.1,newC n.1 x v)) hlt
      have p2:=put_k2 (f:=newC n.1 x) (g:=fun v : Vw => v.2) hlt
      rw [take_snoc hlt] at p1 p2
      simp only [cond_true]
      rw [p1]
      have e2 : (addR n.2.1[k].2 (vdR n.1 n.2.1[k].1 x).1).1 = newC n.1 x n.2.1[k]:=rfl
      rw [e2,p2]
      rfl
    ·have hkl : k = n.2.1.length:=by omega
     left
     refine ⟨_,rfl,fun rec => ?_⟩
     subst hkl
     rw [List.take_length] at hall
     simp only [spec_NotifyChange_B1]
     rw [nlt_dec,cond_false,hall,List.take_length,List.drop_length]
     simp) fz (([] : List Cnt),n.2.1,n.2.2,0) ⟨0,Nat.zero_le _,by rw [List.take_zero,List.drop_zero,<- f3]; rfl,rfl⟩ (by unfold fz; simp only; omega)
   rw [e,ob_s,ho]
   cases n.2.1.all (okCh n.1 x) <;> rfl
end
end Go.Proofs.YtceghmdneadhbaaGreat
