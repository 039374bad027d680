/-
 Counted relations: validity, projection; the reference and the program give the same. On the printed functions; conditions: lengths.
-/
import Derived.Test.YtceghmdneadhbaaGreatApWA1
import Derived.Test.YtceghmdneadhbaaGreatAbWA1
import Derived.Test.YtceghmdneadhbaaGreatEnWA1
-- pure
namespace Go.Proofs.YtceghmdneadhbaaGreat
open Go.RowKit
set_option linter.unusedVariables false
set_option linter.unusedSimpArgs false
abbrev Pr:=Row × Int
def sumC : List Pr -> Row -> Int
 | [],_ => 0
 | p :: l,z => (if p.1 = z then p.2 else 0) + sumC l z
theorem sumC_app (z : Row) (p : Pr) : ∀ l : List Pr,sumC (l ++ [p]) z = sumC l z + if p.1 = z then p.2 else 0
 | [] => by simp [sumC]
 | q :: l => by rw [List.cons_append,sumC,sumC,sumC_app z p l]; omega
theorem sumC_not {z : Row} : ∀ {l : List Pr},(∀ p ∈ l,p.1 ≠ z) -> sumC l z = 0
 | [],_ => rfl
 | p :: l,h => by rw [sumC,if_neg (h p (List.mem_cons_self ..)),sumC_not fun q hq => h q (List.mem_cons_of_mem _ hq)]; rfl
def OkL (l : List Pr) : Prop:=l.length <= 65536 ∧ ∀ p ∈ l,p.1.length <= lim ∧ -1000000 <= p.2 ∧ p.2 <= 1000000
theorem sumC_le (z : Row) : ∀ {l : List Pr},(∀ p ∈ l,-1000000 <= p.2 ∧ p.2 <= 1000000) -> -(1000000 * (l.length : Int)) <= sumC l z ∧ sumC l z <= 1000000 * (l.length : Int)
 | [],_ => by simp [sumC]
 | p :: l,h => by
  have h1:=h p (List.mem_cons_self ..)
  have h2:=sumC_le z fun q hq => h q (List.mem_cons_of_mem _ hq)
  rw [sumC,List.length_cons]
  split <;> omega
def keysL (l : List Pr) : List Row:=sortB (l.map (·.1))
def accR (a : Int) (l : List Pr) : Cnt:=(a,keysL l,(keysL l).map (sumC l))
def nzB (l : List Pr) (z : Row) : Bool:=sumC l z != 0
def setR (a : Int) (l : List Pr) : Cnt:=(a,(keysL l).filter (nzB l),((keysL l).filter (nzB l)).map (sumC l))
theorem keys_mem {l : List Pr} {z : Row} : z ∈ keysL l ↔ ∃ p ∈ l,p.1 = z:=by unfold keysL; rw [sort_mem,List.mem_map]
theorem keys_len (l : List Pr) : (keysL l).length <= l.length:=by have:=sort_len (l.map (·.1)); rw [List.length_map] at this; exact this
theorem keys_srt (l : List Pr) : Srt (keysL l):=sort_srt _
theorem keys_sm {l : List Pr} (h : OkL l) : smRows (keysL l):=⟨by have:=sort_len (l.map (·.1)); rw [List.length_map] at this; have:=h.1; unfold keysL lim; omega,fun r hr => by
 obtain ⟨p,hp,rfl⟩:=keys_mem.1 hr
 exact (h.2 p hp).1⟩
theorem srt_nd {l : List Row} (h : Srt l) : l.Nodup:=by
 rw [List.nodup_iff_pairwise_ne]
 exact h.imp fun h e => by subst e; rw [cmp_self] at h; omega
theorem at_k {rows : List Row} {row : Row} (hs : Srt rows) {k : Nat} (h1 : ∀ i (hi : i < rows.length),i < k -> cmpB rows[i] row < 0) (h2 : ∀ i (hi : i < rows.length),k <= i -> ¬ cmpB rows[i] row < 0) (hm : row ∈ rows) : ∃ hk : k < rows.length,rows[k] = row:=by
 obtain ⟨j,hj,rfl⟩:=List.mem_iff_getElem.1 hm
 have hkj : ¬ j < k:=fun h3 => by have:=h1 j hj h3; rw [cmp_self] at this; omega
 have hlt : k < rows.length:=by omega
 rcases Nat.lt_or_ge k j with h3 | h3
 ·exact absurd (List.pairwise_iff_getElem.1 hs k j hlt hj h3) (h2 k hlt (Nat.le_refl _))
 ·have : k = j:=by omega
  subst this
  exact ⟨hj,rfl⟩
theorem set_sum {K : List Row} (hK : K.Nodup) {j : Nat} (hj : j < K.length) (l : List Pr) (n : Int) : (K.map (sumC l)).set j (sumC l K[j] + n) = K.map (sumC (l ++ [(K[j],n)])):=by
 refine List.ext_getElem (by simp) fun i h1 h2 => ?_
 rw [List.getElem_set,List.getElem_map,List.getElem_map,sumC_app]
 have hi : i < K.length:=by rw [List.length_map] at h2; exact h2
 by_cases h : j = i
 ·subst h; rw [if_pos rfl,if_pos rfl]
 ·rw [if_neg h,if_neg (fun e => h ((List.getElem_inj hK).1 e))]; omega
theorem keys_has {l : List Pr} {row : Row} (n : Int) (h : row ∈ keysL l) : keysL (l ++ [(row,n)]) = keysL l:=by
 refine (sort_of (keys_srt l) fun z => ?_).symm
 rw [keys_mem,List.mem_map]
 constructor
 ·rintro ⟨p,hp,rfl⟩; exact ⟨p,List.mem_append_left _ hp,rfl⟩
 ·rintro ⟨p,hp,rfl⟩
  rcases List.mem_append.1 hp with hp | hp
  ·exact ⟨p,hp,rfl⟩
  ·rw [List.mem_singleton] at hp; subst hp; exact keys_mem.1 h
theorem keys_new {l : List Pr} {row : Row} (n : Int) (h : row ∉ keysL l) {k : Nat} (hk : k <= (keysL l).length) (h1 : ∀ i (hi : i < (keysL l).length),i < k -> cmpB (keysL l)[i] row < 0) (h2 : ∀ i (hi : i < (keysL l).length),k <= i -> ¬ cmpB (keysL l)[i] row < 0) :
  keysL (l ++ [(row,n)]) = (keysL l).take k ++ [row] ++ (keysL l).drop k ∧ (keysL (l ++ [(row,n)])).map (sumC (l ++ [(row,n)])) = ((keysL l).map (sumC l)).take k ++ [n] ++ ((keysL l).map (sumC l)).drop k:=by
 have hs:=keys_srt l
 have e1 : keysL (l ++ [(row,n)]) = (keysL l).take k ++ [row] ++ (keysL l).drop k:=by
  refine (sort_of ?_ fun z => ?_).symm
  ·unfold Srt
   rw [List.append_assoc,List.pairwise_append]
   refine ⟨hs.sublist (List.take_sublist _ _),?_,fun a ha b hb => ?_⟩
   ·rw [List.singleton_append,List.pairwise_cons]
    refine ⟨fun b hb => ?_,hs.sublist (List.drop_sublist _ _)⟩
    obtain ⟨i,hi,rfl⟩:=List.mem_iff_getElem.1 hb
    rw [List.length_drop] at hi
    rw [List.getElem_drop]
    have h3:=h2 (k + i) (by omega) (by omega)
    have h4:=cmp_neg (keysL l)[k + i] row
    rcases Int.lt_trichotomy (cmpB (keysL l)[k + i] row) 0 with h5 | h5 | h5
    ·omega
    ·exact absurd (List.getElem_mem _) (by rw [cmp_zero h5]; exact h)
    ·omega
   ·obtain ⟨i,hi,rfl⟩:=List.mem_iff_getElem.1 ha
    rw [List.length_take] at hi
    rw [List.getElem_take]
    have h3:=h1 i (by omega) (by omega)
    rcases List.mem_append.1 hb with hb | hb
    ·rw [List.mem_singleton] at hb; subst hb; exact h3
    ·obtain ⟨j,hj,rfl⟩:=List.mem_iff_getElem.1 hb
     rw [List.length_drop] at hj
     rw [List.getElem_drop]
     exact List.pairwise_iff_getElem.1 hs _ _ _ _ (by omega)
  ·rw [List.mem_append,List.mem_append,List.mem_singleton,List.mem_map]
   constructor
   ·rintro ((h3 | rfl) | h3)
    ·obtain ⟨p,hp,e⟩:=keys_mem.1 (List.mem_of_mem_take h3); exact ⟨p,List.mem_append_left _ hp,e⟩
    ·exact ⟨_,List.mem_append_right _ (List.mem_singleton.2 rfl),rfl⟩
    ·obtain ⟨p,hp,e⟩:=keys_mem.1 (List.mem_of_mem_drop h3); exact ⟨p,List.mem_append_left _ hp,e⟩
   ·rintro ⟨p,hp,rfl⟩
    rcases List.mem_append.1 hp with hp | hp
    ·have h3 : p.1 ∈ keysL l:=keys_mem.2 ⟨p,hp,rfl⟩
     rw [<- List.take_append_drop k (keysL l),List.mem_append] at h3
     exact h3.elim (fun h => .inl (.inl h)) .inr
    ·rw [List.mem_singleton] at hp; subst hp; exact .inl (.inr rfl)
 have h0 : sumC l row = 0:=sumC_not fun p hp e => h (keys_mem.2 ⟨p,hp,e⟩)
 have hne : ∀ z ∈ keysL l,sumC (l ++ [(row,n)]) z = sumC l z:=fun z hz => by
  rw [sumC_app,if_neg (fun e => h (by rw [show row = z from e]; exact hz))]; omega
 refine ⟨e1,?_⟩
 rw [e1,List.map_append,List.map_append,List.map_singleton,<- List.map_take,<- List.map_drop,sumC_app,if_pos rfl,h0,Int.zero_add]
 rw [List.map_congr_left fun z hz => hne z (List.mem_of_mem_take hz),List.map_congr_left fun z hz => hne z (List.mem_of_mem_drop hz)]
theorem okl_pre {l : List Pr} {k : Nat} (h : OkL l) : OkL (l.take k):=⟨by rw [List.length_take]; have:=h.1; omega,fun p hp => h.2 p (List.mem_of_mem_take hp)⟩
theorem i_tally {a : Int} {l : List Pr} {row : Row} {n : Int} (h : OkL l) (hrow : row.length <= lim) (hn : -1000000 <= n ∧ n <= 1000000) : impl_tally (accR a l) row n = some (accR a (l ++ [(row,n)])):=by
 have hs:=keys_srt l
 have hsm:=keys_sm h
 have hb:=sumC_le row fun p hp => (h.2 p hp).2
 have hl:=h.1
 obtain ⟨k,hk,e,h1,h2⟩:=i_placeK (row:=row) hs hsm
 have hKl : (keysL l).length <= 65536:=by have:=sort_len (l.map (·.1)); rw [List.length_map] at this; unfold keysL; omega
 show impl_tally (a,keysL l,(keysL l).map (sumC l)) row n = some (a,keysL (l ++ [(row,n)]),(keysL (l ++ [(row,n)])).map (sumC (l ++ [(row,n)])))
 unfold impl_tally
 dsimp only
 rw [e,ob_s]
 cases hc : (keysL l).contains row with
 | true =>
  have hm : row ∈ keysL l:=List.contains_iff_mem.1 hc
  obtain ⟨hk',ek⟩:=at_k hs h1 h2 hm
  simp only [cond_true]
  have eg : geti ((keysL l).map (sumC l)) (k : Int) = some (sumC l row):=by
   rw [geti_at (by rw [List.length_map]; exact hk'),List.getElem_map,ek]
  rw [chk_pos (show 0 < ((keysL l).map (sumC l)).length by rw [List.length_map]; omega),eg,ob_s,ob_s,wrap_in (by omega)]
  have es:=set_sum (srt_nd hs) hk' l n
  rw [ek] at es
  show some (a,keysL l,((keysL l).map (sumC l)).set (Int.toNat (k : Int)) (sumC l row + n)) = some (a,keysL (l ++ [(row,n)]),(keysL (l ++ [(row,n)])).map (sumC (l ++ [(row,n)])))
  rw [Int.toNat_natCast,es,keys_has n hm]
 | false =>
  have hm : row ∉ keysL l:=fun hm => by rw [List.contains_iff_mem.2 hm] at hc; cases hc
  obtain ⟨e1,e2⟩:=keys_new n hm hk h1 h2
  have hE : (enumP 0 (keysL l)).length = (keysL l).length:=enumP_len 0 _
  simp only [cond_false,List.nil_append]
  have t1 : subl (enumP 0 (keysL l)) 0 (k : Int) = (enumP 0 (keysL l)).take k:=by simp [subl]
  have t2 : subl (enumP 0 (keysL l)) (k : Int) ((List.length (enumP 0 (keysL l)) : Nat) : Int) = (enumP 0 (keysL l)).drop k:=by unfold subl; rw [Int.toNat_natCast,Int.toNat_natCast,List.take_length]
  have hC : ((keysL l).map (sumC l)).length = (keysL l).length:=List.length_map _
  have t3 : subl ((keysL l).map (sumC l)) 0 (k : Int) = ((keysL l).map (sumC l)).take k:=by unfold subl; rw [Int.toNat_natCast]; rfl
  have t4 : subl ((keysL l).map (sumC l)) (k : Int) ((List.length ((keysL l).map (sumC l)) : Nat) : Int) = ((keysL l).map (sumC l)).drop k:=by unfold subl; rw [Int.toNat_natCast,Int.toNat_natCast,List.take_length]
  obtain ⟨ok,gm⟩:=okJ_put (keysL l) k [row]
  have hlt : (List.take k (enumP 0 (keysL l))).length = k:=by rw [List.length_take,hE]; omega
  have hld : (List.drop k (enumP 0 (keysL l))).length = (keysL l).length - k:=by rw [List.length_drop,hE]
  have hlt' : (List.take k ((keysL l).map (sumC l))).length = k:=by rw [List.length_take,hC]; omega
  have hld' : (List.drop k ((keysL l).map (sumC l))).length = (keysL l).length - k:=by rw [List.length_drop,hC]
  rw [t1,t2,t3,t4]
  rw [chk_pos (by rw [hE]; omega),chk_pos (by rw [hlt,List.length_nil]; unfold lim; omega),i_copyI hrow,ob_s,chk_pos (by rw [<- l_inl,<- l_inr,hlt,List.length_singleton]; unfold lim; omega)]
  rw [chk_pos (show (0 : Int) <= (k : Int) ∧ (k : Int) <= (List.length (enumP 0 (keysL l)) : Int) ∧ (List.length (enumP 0 (keysL l)) : Int) <= (List.length (enumP 0 (keysL l)) : Int) by rw [hE]; omega)]
  rw [chk_pos (by rw [List.length_append,<- l_inl,<- l_inl,<- l_inr,hlt,hld,List.length_singleton]; unfold lim; omega),chk_pos ok,gm]
  rw [chk_pos (show (0 : Int) <= 0 ∧ 0 <= (k : Int) ∧ (k : Int) <= (List.length ((keysL l).map (sumC l)) : Int) by rw [hC]; omega),i_copyI (by rw [hlt']; unfold lim; omega),ob_s,chk_pos (by rw [hlt',List.length_singleton]; unfold lim; omega)]
  rw [chk_pos (show (0 : Int) <= (k : Int) ∧ (k : Int) <= (List.length ((keysL l).map (sumC l)) : Int) ∧ (List.length ((keysL l).map (sumC l)) : Int) <= (List.length ((keysL l).map (sumC l)) : Int) by rw [hC]; omega)]
  rw [chk_pos (by rw [List.length_append,hlt',hld',List.length_singleton]; unfold lim; omega)]
  show some (a,_,_) = some (a,keysL (l ++ [(row,n)]),(keysL (l ++ [(row,n)])).map (sumC (l ++ [(row,n)])))
  rw [e2,e1]
theorem i_settled {a : Int} {l : List Pr} (h : OkL l) : impl_settled (a,enumP 0 (keysL l),(keysL l).map (sumC l)) = some (a,(enumP 0 (keysL l)).filter (fun p => nzB l p.2),((keysL l).filter (nzB l)).map (sumC l)):=by
 have hKl:=(keys_sm h).1
 have hE : (enumP 0 (keysL l)).length = (keysL l).length:=enumP_len 0 _
 have hC : ((keysL l).map (sumC l)).length = (keysL l).length:=List.length_map _
 have:=loop_to (body:=impl_settled_B1 (a,enumP 0 (keysL l),(keysL l).map (sumC l))) (out:=((enumP 0 (keysL l)).filter (fun p => nzB l p.2),((keysL l).filter (nzB l)).map (sumC l))) (fun k => (((enumP 0 (keysL l)).take k).filter (fun p => nzB l p.2),(((keysL l).take k).filter (nzB l)).map (sumC l),(k : Int))) (keysL l).length (fun k hk rec => by
  have hkE : k < (enumP 0 (keysL l)).length:=by omega
  have hEk : (enumP 0 (keysL l))[k] = (k,(keysL l)[k]):=by
   have:=enumT_get (keysL l) 0 k
   rw [List.getElem?_eq_getElem hkE,List.getElem?_eq_getElem hk] at this
   simpa using this
  have hW : IntKind.i64.wrap ((k : Int) + 1) = ((k + 1 : Nat) : Int):=wrap_s hk (lim_max hKl)
  simp only [impl_settled_B1]
  rw [decide_eq_true (by rw [hC]; omega),cond_true,geti_at (by rw [hC]; exact hk),ob_s,filt_step hkE,filt_step hk,List.getElem_map,hEk]
  have f1:=filt_few hkE (by omega) (fun p => nzB l p.2) (k,(keysL l)[k])
  have f2:=filt_few hk hKl (nzB l) (keysL l)[k]
  cases hz : nzB l (keysL l)[k] with
  | true =>
   have hz' : (sumC l (keysL l)[k] != 0) = true:=hz
   rw [hz',cond_true,geti_at hkE,hEk,ob_s,chk_pos f1,chk_pos (by rw [List.length_map]; exact f2)]
   simp only [impl_settled_J2,hz,cond_true,List.map_append,List.map_cons,List.map_nil,hW]
  | false =>
   have hz' : (sumC l (keysL l)[k] != 0) = false:=hz
   rw [hz']
   simp only [cond_false,impl_settled_J2,hz,List.append_nil,hW]) (fun rec => by
  simp only [impl_settled_B1]
  rw [decide_eq_false (by rw [hC]; omega),cond_false,List.take_length,List.take_of_length_le (by omega)]) fz (lt_fz hKl)
 unfold impl_settled
 have e0 : loopF (impl_settled_B1 (a,enumP 0 (keysL l),(keysL l).map (sumC l))) fz (([] : List (Nat × List Int)),([] : List Int),0) = some ((enumP 0 (keysL l)).filter (fun p => nzB l p.2),((keysL l).filter (nzB l)).map (sumC l)):=this
 rw [e0]; rfl
theorem keep_get (l : List Pr) : List.map getM (inlM ((enumP 0 (keysL l)).filter (fun p => nzB l p.2))) = (keysL l).filter (nzB l):=by
 unfold inlM
 rw [List.map_map]
 have e1 : (getM ∘ Sum.inl : Nat × Row -> Row) = fun p => p.2:=rfl
 rw [e1]
 have e2:=List.filter_map (p:=nzB l) (f:=fun p : Nat × Row => p.2) (l:=enumP 0 (keysL l))
 have e3 : (enumP 0 (keysL l)).map (fun p => p.2) = keysL l:=enum_map2 0 _
 rw [e3] at e2
 exact e2.symm
theorem keep_ok (l : List Pr) : okJ (keysL l) (inlM ((enumP 0 (keysL l)).filter (fun p => nzB l p.2))) [] = true:=by
 refine okJ_inl _ _ ?_ (by simp) (fun p hp => ?_)
 ·refine List.Nodup.sublist (List.Sublist.map _ List.filter_sublist) ?_
  rw [enum_map1]; exact List.nodup_range'
 ·have:=(enum_mem 0 _ p (List.mem_filter.1 hp).1).2
  simpa using this
def cntB (c : Cnt) : Bool:=((List.length c.2.1 : Int) == (List.length c.2.2 : Int)) && (relB (c.1,c.2.1) && !badAny c.2.2 fun _ n => (n == 0) || !btw n (-1000000) 1000000)
theorem s_cnt {c : Cnt} (h : smCnt c) : spec_IsValidCounted c = some (cntB c):=by
 unfold spec_IsValidCounted cntB badAny bne
 cases (List.length c.2.1 : Int) == (List.length c.2.2 : Int) with
 | false => rfl
 | true =>
  simp only [Bool.not_true,cond_false,Bool.true_and]
  rw [s_rel (r:=(c.1,c.2.1)) h.1,ob_s]
  cases relB (c.1,c.2.1) with
  | false => rfl
  | true =>
   simp only [Bool.not_true,cond_false,Bool.true_and]
   rw [all_loop (fun k => atB c.2.2 k fun n => (n == 0) || !btw n (-1000000) 1000000) h.2 (fun k hk rec => by
    unfold spec_IsValidCounted_B1
    rw [lt_dec hk,geti_at hk,wrap_s hk (lim_max h.2),atB_lt hk]
    simp only [cond_true,obind,s_l1In]
    cases c.2.2[k] == 0 <;> cases btw c.2.2[k] (-1000000) 1000000 <;> rfl) (fun rec => by unfold spec_IsValidCounted_B1; rw [nlt_dec]; rfl)]
   cases (List.range c.2.2.length).any fun k => atB c.2.2 k fun n => (n == 0) || !btw n (-1000000) 1000000 <;> rfl
theorem i_rows {a : Int} {l : List Row} (h : smRows l) : impl_rowsValid a l = some (relB (a,l)):=by
 have:=i_rel (r:=(a,l)) h
 unfold impl_IsValidRelation at this
 cases hx : impl_rowsValid a l with
 | none => rw [hx] at this; cases this
 | some b => rw [hx] at this; exact this
theorem i_cnt {c : Cnt} (h : smCnt c) : impl_IsValidCounted c = some (cntB c):=by
 unfold impl_IsValidCounted cntB badAny
 rw [i_rows h.1,ob_s]
 have hsw : ((List.length c.2.2 : Int) != (List.length c.2.1 : Int)) = !((List.length c.2.1 : Int) == (List.length c.2.2 : Int)):=by
  rw [bne,Bool.eq_iff_iff]; simp only [Bool.not_eq_true',beq_eq_false_iff_ne,ne_eq]; exact ⟨fun h e => h e.symm,fun h e => h e.symm⟩
 cases relB (c.1,c.2.1) with
 | false => simp
 | true =>
  simp only [Bool.not_true,cond_false,Bool.true_and,hsw]
  cases (List.length c.2.1 : Int) == (List.length c.2.2 : Int) with
  | false => rfl
  | true =>
   simp only [Bool.not_true,cond_false,Bool.true_and]
   rw [all_loop (fun k => atB c.2.2 k fun n => (n == 0) || !btw n (-1000000) 1000000) h.2 (fun k hk rec => by
    unfold impl_IsValidCounted_B1
    rw [lt_dec hk,geti_at hk,wrap_s hk (lim_max h.2),atB_lt hk]
    simp only [cond_true,obind,i_within]
    cases c.2.2[k] == 0 <;> cases btw c.2.2[k] (-1000000) 1000000 <;> rfl) (fun rec => by unfold impl_IsValidCounted_B1; rw [nlt_dec]; rfl)]
   cases (List.range c.2.2.length).any fun k => atB c.2.2 k fun n => (n == 0) || !btw n (-1000000) 1000000 <;> rfl
theorem cnt_facts {c : Cnt} (h : cntB c = true) : relB (c.1,c.2.1) = true ∧ c.2.1.length = c.2.2.length ∧ c.2.1.length <= 4000 ∧ (∀ x ∈ c.2.1,(x.length : Int) = c.1 ∧ avvB x = true) ∧ 0 <= c.1 ∧ c.1 <= 5 ∧ ∀ n ∈ c.2.2,-1000000 <= n ∧ n <= 1000000:=by
 unfold cntB at h
 simp only [Bool.and_eq_true,Bool.not_eq_true',beq_iff_eq] at h
 obtain ⟨h1,h2,h3⟩:=h
 obtain ⟨r1,r2,r3,r4⟩:=rel_rows h2
 refine ⟨h2,by omega,r3,r4,r1,r2,fun n hn => ?_⟩
 have:=badAny_mem h3 hn
 simp only [Bool.or_eq_false_iff,Bool.not_eq_false'] at this
 unfold btw at this
 simpa using this.2
def colsB (n : Int) (cols : List Int) : Bool:=(!badAny cols fun _ e => !btw e 0 (IntKind.i64.wrap (n - 1))) && decide ((cols.length : Int) <= 5)
def prsL (c : Cnt) (cols : List Int) : List Pr:=(c.2.1.map fun r => pickB r cols).zip c.2.2
def pjC (c : Cnt) (cols : List Int) : Cnt × Bool:=cond (cntB c && (colsB c.1 cols && cntB (setR (cols.length : Int) (prsL c cols)))) (setR (cols.length : Int) (prsL c cols),true) ((0,[],[]),false)
theorem cols_in {c : Cnt} {cols : List Int} (hc : cntB c = true) (h : colsB c.1 cols = true) : cols.length <= 5 ∧ ∀ r ∈ c.2.1,∀ v ∈ cols,0 <= v ∧ v < (r.length : Int):=by
 obtain ⟨-,-,-,f4,f5,f6,-⟩:=cnt_facts hc
 unfold colsB at h
 simp only [Bool.and_eq_true,Bool.not_eq_true',decide_eq_true_eq] at h
 refine ⟨by omega,fun r hr v hv => ?_⟩
 have:=badAny_mem h.1 hv
 rw [Bool.not_eq_false',wrap_in (by omega)] at this
 unfold btw at this
 simp only [Bool.and_eq_true,decide_eq_true_eq] at this
 have:=(f4 r hr).1
 omega
theorem prs_at {c : Cnt} {cols : List Int} (hc : cntB c = true) {k : Nat} (hk : k < c.2.1.length) : ∃ h : k < (prsL c cols).length,∃ h2 : k < c.2.2.length,(prsL c cols)[k] = (pickB c.2.1[k] cols,c.2.2[k]):=by
 have f2:=(cnt_facts hc).2.1
 have h : k < (prsL c cols).length:=by unfold prsL; rw [List.length_zip,List.length_map]; omega
 refine ⟨h,by omega,?_⟩
 have e : (prsL c cols)[k]'h = ((c.2.1.map fun r => pickB r cols)[k]'(by rw [List.length_map]; exact hk),c.2.2[k]'(by omega)):=List.getElem_zip
 rw [e,List.getElem_map]
theorem prs_len {c : Cnt} {cols : List Int} (hc : cntB c = true) : (prsL c cols).length = c.2.1.length:=by
 have f2:=(cnt_facts hc).2.1
 unfold prsL; rw [List.length_zip,List.length_map]; omega
theorem prs_ok {c : Cnt} {cols : List Int} (hc : cntB c = true) (hl : cols.length <= 5) : OkL (prsL c cols):=by
 obtain ⟨-,f2,f3,-,-,-,f7⟩:=cnt_facts hc
 refine ⟨by rw [prs_len hc]; omega,fun p hp => ?_⟩
 obtain ⟨k,hk,rfl⟩:=List.mem_iff_getElem.1 hp
 rw [prs_len hc] at hk
 obtain ⟨h1,h2,e⟩:=prs_at (cols:=cols) hc hk
 rw [e]
 exact ⟨by simp only [pickB,List.length_map]; unfold lim; omega,f7 _ (List.getElem_mem h2)⟩
theorem prs_fst {c : Cnt} {cols : List Int} (hc : cntB c = true) : (prsL c cols).map (·.1) = c.2.1.map fun r => pickB r cols:=by
 have f2:=(cnt_facts hc).2.1
 unfold prsL
 rw [<- List.unzip_fst,List.unzip_zip (by rw [List.length_map]; exact f2)]
theorem set_smC {a : Int} {l : List Pr} (h : OkL l) : smCnt (setR a l):=by
 have hk:=keys_sm h
 refine ⟨⟨Nat.le_trans (List.length_filter_le _ _) hk.1,fun r hr => hk.2 r (List.mem_filter.1 hr).1⟩,?_⟩
 show (((keysL l).filter (nzB l)).map (sumC l)).length <= lim
 rw [List.length_map]
 exact Nat.le_trans (List.length_filter_le _ _) hk.1
theorem take_snoc {α : Type} {l : List α} {k : Nat} (hk : k < l.length) : l.take (k + 1) = l.take k ++ [l[k]]:=List.take_succ_eq_append_getElem hk
theorem i_colsF {n : Int} {cols : List Int} (hl : cols.length <= lim) : impl_columnsFit n cols = some (colsB n cols):=by
 unfold impl_columnsFit colsB badAny
 rcases Nat.lt_or_ge 5 cols.length with h | h
 ·rw [decide_eq_true (by omega),decide_eq_false (by omega),Bool.and_false]; rfl
 ·rw [decide_eq_false (by omega),decide_eq_true (by omega),Bool.and_true,cond_false]
  rw [all_loop (fun k => atB cols k fun e => !btw e 0 (IntKind.i64.wrap (n - 1))) hl (fun k hk rec => by
   unfold impl_columnsFit_B1
   rw [lt_dec hk,geti_at hk,wrap_s hk (lim_max hl),atB_lt hk]
   simp only [cond_true,obind,i_within]) (fun rec => by unfold impl_columnsFit_B1; rw [nlt_dec]; rfl)]
  cases (List.range cols.length).any fun k => atB cols k fun e => !btw e 0 (IntKind.i64.wrap (n - 1)) <;> rfl
theorem i_proj {c : Cnt} {cols : List Int} (h : smCnt c) (hl : cols.length <= lim) : impl_ProjectCounted c cols = some (pjC c cols):=by
 unfold impl_ProjectCounted pjC
 rw [i_cnt h,ob_s]
 cases hc : cntB c with
 | false => rfl
 | true =>
  rw [Bool.not_true,cond_false,i_colsF hl,ob_s]
  cases hf : colsB c.1 cols with
  | false => rfl
  | true =>
   obtain ⟨c5,hin⟩:=cols_in hc hf
   have hok:=prs_ok hc c5
   obtain ⟨-,f2,f3,-,-,-,f7⟩:=cnt_facts hc
   have hloop:=loop_to (body:=impl_ProjectCounted_B1 c cols) (out:=accR (cols.length : Int) (prsL c cols)) (fun k => ((cols.length : Int),keysL ((prsL c cols).take k),(keysL ((prsL c cols).take k)).map (sumC ((prsL c cols).take k)),(k : Int))) c.2.1.length (fun k hk rec => by
    obtain ⟨h1,h2,e⟩:=prs_at (cols:=cols) hc hk
    have ht:=i_tally (a:=(cols.length : Int)) (okl_pre (k:=k) hok) (row:=pickB c.2.1[k] cols) (n:=c.2.2[k]) (by simp only [pickB,List.length_map]; exact hl) (f7 _ (List.getElem_mem h2))
    have ht' : impl_tally ((cols.length : Int),keysL ((prsL c cols).take k),(keysL ((prsL c cols).take k)).map (sumC ((prsL c cols).take k))) (pickB c.2.1[k] cols) c.2.2[k] = _:=ht
    simp only [impl_ProjectCounted_B1]
    rw [lt_dec hk,cond_true,geti_at hk,ob_s,i_pick hl (hin _ (List.getElem_mem hk)),ob_s,geti_at h2,ob_s,ht',ob_s,wrap_s hk (lim_max h.1.1),take_snoc h1,e]; rfl) (fun rec => by
    simp only [impl_ProjectCounted_B1]
    rw [nlt_dec,cond_false,<- prs_len (cols:=cols) hc,List.take_length]; rfl) fz (lt_fz h.1.1)
   have hloop' : loopF (impl_ProjectCounted_B1 c cols) fz ((List.length cols : Int),([] : List (List Int)),([] : List Int),0) = some (accR (cols.length : Int) (prsL c cols)):=hloop
   rw [Bool.not_true,cond_false,hloop',ob_s]
   show (obind (impl_settled ((cols.length : Int),enumP 0 (keysL (prsL c cols)),(keysL (prsL c cols)).map (sumC (prsL c cols)))) _) = _
   rw [i_settled hok,ob_s]
   simp only [accR]
   rw [chk_pos (keep_ok _),keep_get]
   have hv:=i_cnt (set_smC (a:=(cols.length : Int)) hok)
   show (obind (impl_IsValidCounted (setR (cols.length : Int) (prsL c cols))) _) = _
   rw [hv,ob_s,Bool.true_and,Bool.true_and]
   cases cntB (setR (cols.length : Int) (prsL c cols)) <;> rfl
theorem s_sum {a : Int} {rows : List Row} {counts : List Int} (hn : nrB a rows = ((a,sortB rows),true)) (hl : rows.length = counts.length) (hok : OkL (rows.zip counts)) : spec_l27Sum a rows counts = some (cond (cntB (setR a (rows.zip counts))) (setR a (rows.zip counts),true) ((0,[],[]),false)):=by
 have hfst : (rows.zip counts).map (·.1) = rows:=by rw [<- List.unzip_fst,List.unzip_zip hl]
 have hlz : (rows.zip counts).length = rows.length:=by rw [List.length_zip]; omega
 have hrl:=hok.1
 have hK : sortB rows = keysL (rows.zip counts):=by unfold keysL; rw [hfst]
 have hrow : ∀ k (hk : k < rows.length) (hk2 : k < (rows.zip counts).length) (hk3 : k < counts.length),(rows.zip counts)[k] = (rows[k],counts[k]):=fun k hk hk2 hk3 => List.getElem_zip
 generalize hP : rows.zip counts = P at *
 have hsm:=keys_sm hok
 have hs:=keys_srt P
 have hsmr : smRows rows:=⟨by unfold lim; omega,fun r hr => by rw [<- hfst] at hr; obtain ⟨p,hp,rfl⟩:=List.mem_map.1 hr; exact (hok.2 p hp).1⟩
 have hKl : (keysL P).length <= 65536:=Nat.le_trans (keys_len P) hok.1
 unfold spec_l27Sum
 rw [s_nr hsmr,ob_s,hn]
 simp only [Bool.not_true,cond_false]
 rw [hK,chk_pos (make_ok hsm.1)]
 have hl1:=loop_to (body:=spec_l27Sum_B1 rows counts ((a,keysL P),true)) (out:=(keysL P).map (sumC P)) (fun k => ((keysL P).map (sumC (P.take k)),(k : Int))) rows.length (fun k hk rec => by
  have hk2 : k < P.length:=by omega
  have hPl : P.length <= 65536:=hok.1
  have hk3 : k < counts.length:=by omega
  have hrk:=hrow k hk hk2 hk3
  obtain ⟨j,hj,e,h1,h2⟩:=s_placeK (r:=(a,keysL P)) (row:=rows[k]) hs hsm
  have hm : rows[k] ∈ keysL P:=keys_mem.2 ⟨P[k],List.getElem_mem hk2,by rw [hrk]⟩
  obtain ⟨hj',ej⟩:=at_k hs h1 h2 hm
  have hC : ((keysL P).map (sumC (P.take k))).length = (keysL P).length:=List.length_map _
  have eg : geti ((keysL P).map (sumC (P.take k))) (j : Int) = some (sumC (P.take k) (keysL P)[j]):=by rw [geti_at (by rw [hC]; exact hj'),List.getElem_map]
  have hb:=sumC_le (keysL P)[j] (l:=P.take k) fun p hp => (hok.2 p (List.mem_of_mem_take hp)).2
  have hn:=(hok.2 _ (List.getElem_mem hk2)).2
  rw [hrk] at hn
  rw [List.length_take] at hb
  have es:=set_sum (srt_nd hs) hj' (P.take k) counts[k]
  have ea : P.take k ++ [((keysL P)[j],counts[k])] = P.take (k + 1):=by rw [take_snoc hk2,hrk,ej]
  rw [ea] at es
  simp only [spec_l27Sum_B1]
  rw [lt_dec hk,cond_true,geti_at hk,ob_s,e,ob_s,eg,ob_s,geti_at hk3,ob_s,ob_s,wrap_in (by simp only at hn; omega),wrap_s hk (lim_max hsmr.1)]
  unfold seti
  simp only
  rw [Int.toNat_natCast,es]) (fun rec => by
  simp only [spec_l27Sum_B1]
  rw [nlt_dec,cond_false,<- hlz,List.take_length]) fz (lt_fz hsmr.1)
 have hz : List.replicate (Int.toNat (List.length (keysL P) : Int)) (0 : Int) = (keysL P).map (sumC (P.take 0)):=by
  rw [Int.toNat_natCast]
  exact (List.eq_replicate_iff.2 ⟨List.length_map _,fun x hx => by obtain ⟨z,-,rfl⟩:=List.mem_map.1 hx; rfl⟩).symm
 have hl1' : loopF (spec_l27Sum_B1 rows counts ((a,keysL P),true)) fz ((List.replicate (Int.toNat (List.length (keysL P) : Int)) (0 : Int)),0) = some ((keysL P).map (sumC P)):=by rw [hz]; exact hl1
 rw [hl1',ob_s]
 have hC : ((keysL P).map (sumC P)).length = (keysL P).length:=List.length_map _
 have hE : (enumP 0 (keysL P)).length = (keysL P).length:=enumP_len 0 _
 have hl2:=loop_to (body:=spec_l27Sum_B2 ((a,keysL P),true) ((keysL P).map (sumC P))) (out:=((enumP 0 (keysL P)).filter (fun p => nzB P p.2),((keysL P).filter (nzB P)).map (sumC P))) (fun k => (((enumP 0 (keysL P)).take k).filter (fun p => nzB P p.2),(((keysL P).take k).filter (nzB P)).map (sumC P),(k : Int))) (keysL P).length (fun k hk rec => by
  have hkE : k < (enumP 0 (keysL P)).length:=by omega
  have hEk : (enumP 0 (keysL P))[k] = (k,(keysL P)[k]):=by
   have:=enumT_get (keysL P) 0 k
   rw [List.getElem?_eq_getElem hkE,List.getElem?_eq_getElem hk] at this
   simpa using this
  have hW : IntKind.i64.wrap ((k : Int) + 1) = ((k + 1 : Nat) : Int):=wrap_s hk (lim_max hsm.1)
  have f1:=filt_few hkE (by rw [hE]; exact hsm.1) (fun p => nzB P p.2) (k,(keysL P)[k])
  have f2:=filt_few hk hsm.1 (nzB P) (keysL P)[k]
  simp only [spec_l27Sum_B2]
  rw [decide_eq_true (by rw [hE]; omega),cond_true,geti_at (by rw [hC]; exact hk),ob_s,filt_step hkE,filt_step hk,List.getElem_map,hEk]
  cases hz : nzB P (keysL P)[k] with
  | true =>
   have hz' : (sumC P (keysL P)[k] != 0) = true:=hz
   rw [hz',cond_true,geti_at hkE,hEk,ob_s,chk_pos f1,ob_s,chk_pos (by rw [List.length_map]; exact f2)]
   simp only [spec_l27Sum_J3,hz,cond_true,List.map_append,List.map_cons,List.map_nil,hW]
  | false =>
   have hz' : (sumC P (keysL P)[k] != 0) = false:=hz
   rw [hz']
   simp only [cond_false,spec_l27Sum_J3,hz,List.append_nil,hW]) (fun rec => by
  simp only [spec_l27Sum_B2]
  rw [decide_eq_false (by rw [hE]; omega),cond_false,List.take_length,List.take_of_length_le (by omega)]) fz (lt_fz hsm.1)
 have hl2' : loopF (spec_l27Sum_B2 ((a,keysL P),true) ((keysL P).map (sumC P))) fz (([] : List (Nat × List Int)),([] : List Int),0) = some ((enumP 0 (keysL P)).filter (fun p => nzB P p.2),((keysL P).filter (nzB P)).map (sumC P)):=hl2
 rw [hl2',ob_s]
 simp only
 rw [chk_pos (keep_ok P),keep_get]
 have hv:=s_cnt (set_smC (a:=a) hok)
 show (obind (spec_IsValidCounted (setR a P)) _) = _
 rw [hv,ob_s]
 cases cntB (setR a P) <;> rfl
theorem pkv_ok {r cols : List Int} (hv : avvB r = true) (h : ∀ v ∈ cols,0 <= v ∧ v < (r.length : Int)) : avvB (pickB r cols) = true:=avv_of fun x hx => by
 unfold pickB at hx
 obtain ⟨v,hv',rfl⟩:=List.mem_map.1 hx
 have h1:=h v hv'
 obtain ⟨n,rfl⟩:=Int.eq_ofNat_of_zero_le h1.1
 rw [atI_n (by omega)]
 exact avv_at hv (by omega)
theorem s_proj {c : Cnt} {cols : List Int} (h : smCnt c) (hl : cols.length <= lim) : spec_ProjectCounted c cols = some (pjC c cols):=by
 unfold spec_ProjectCounted pjC
 rw [bad_loop (fun k => atB cols k fun e => !btw e 0 (IntKind.i64.wrap (c.1 - 1))) ((((0,[],[]),false)) : Cnt × Bool) hl (fun k hk rec => by
  unfold spec_ProjectCounted_B1
  rw [lt_dec hk,geti_at hk,wrap_s hk (lim_max hl),atB_lt hk]
  simp only [cond_true,obind,s_l1In]) (fun rec => by unfold spec_ProjectCounted_B1; rw [nlt_dec]; rfl),ob_s]
 have hcB : colsB c.1 cols = ((!(List.range cols.length).any fun k => atB cols k fun e => !btw e 0 (IntKind.i64.wrap (c.1 - 1))) && decide ((cols.length : Int) <= 5)):=rfl
 cases hb : (List.range cols.length).any fun k => atB cols k fun e => !btw e 0 (IntKind.i64.wrap (c.1 - 1)) with
 | true => rw [hcB,hb]; simp
 | false =>
  simp only [cond_false]
  rw [s_cnt h,ob_s]
  cases hc : cntB c with
  | false => simp
  | true =>
   rw [Bool.not_true,cond_false]
   rcases Nat.lt_or_ge 5 cols.length with h5 | h5
   ·rw [hcB,decide_eq_true (by omega),decide_eq_false (by omega)]; simp
   ·have hf : colsB c.1 cols = true:=by rw [hcB,hb,decide_eq_true (by omega)]; rfl
    rw [decide_eq_false (by omega),cond_false,hf]
    obtain ⟨c5,hin⟩:=cols_in hc hf
    have hok:=prs_ok hc c5
    obtain ⟨-,f2,f3,f4,-,-,f7⟩:=cnt_facts hc
    have hml:=map_loop (a:=c.2.1) (h:=fun r => pickB r cols) (B:=spec_ProjectCounted_B2 c cols) h.1.1 (fun k hk rec => by
     simp only [spec_ProjectCounted_B2]
     rw [lt_dec hk,cond_true,geti_at hk,ob_s,s_cols hl (hin _ (List.getElem_mem hk)),ob_s,chk_pos (by simp only [List.length_singleton,List.length_map,List.length_take]; have:=h.1.1; omega),wrap_s hk (lim_max h.1.1)]) (fun rec y => by simp only [spec_ProjectCounted_B2]; rw [nlt_dec,cond_false])
    rw [hml,ob_s]
    have hnr : nrB (cols.length : Int) (c.2.1.map fun r => pickB r cols) = (((cols.length : Int),sortB (c.2.1.map fun r => pickB r cols)),true):=nr_ok (by unfold btw; simp; omega) (by rw [List.length_map]; exact f3) (fun r hr => by
     obtain ⟨x,hx,rfl⟩:=List.mem_map.1 hr
     exact ⟨by simp only [pickB,List.length_map],pkv_ok (f4 x hx).2 (hin x hx)⟩)
    rw [s_sum hnr (by rw [List.length_map]; exact f2) hok,ob_s,Bool.true_and,Bool.true_and]
    show some (((cond (cntB (setR (cols.length : Int) (prsL c cols))) (setR (cols.length : Int) (prsL c cols),true) ((0,[],[]),false)) : Cnt × Bool)) = _
    rfl
end Go.Proofs.YtceghmdneadhbaaGreat
