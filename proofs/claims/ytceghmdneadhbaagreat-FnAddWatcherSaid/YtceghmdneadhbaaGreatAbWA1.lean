/-
 The bindings of an atom: the reference and the program agree. On the printed functions; conditions: the atom fits its relation.
-/
import Derived.Test.YtceghmdneadhbaaGreatNrWA1
import Derived.Test.YtceghmdneadhbaaGreatTvWA1
-- pure
namespace Go.Proofs.YtceghmdneadhbaaGreat
open Go.RowKit
set_option linter.unusedVariables false
set_option linter.unusedSimpArgs false
theorem find_at {l : List Int} {v : Int} {k : Nat} (h : findI l v = some k) : ∃ hk : k < l.length,l[k] = v := by
 unfold findI at h
 obtain ⟨j,hj,he⟩ := List.exists_of_findSome?_eq_some h
 have hj := List.mem_range.1 hj
 rw [atB_lt hj] at he
 split at he
 ·rename_i hb
  injection he with he
  subst he
  exact ⟨hj,by simpa using hb⟩
 ·cases he
theorem place_in {l : List Int} {v : Int} (h : l.contains v = true) : ∃ k : Nat,∃ hk : k < l.length,placeI l v = (k : Int) ∧ l[k] = v := by
 rw [<- findI_some] at h
 obtain ⟨k,hk⟩ := Option.isSome_iff_exists.1 h
 obtain ⟨h1,h2⟩ := find_at hk
 exact ⟨k,h1,by unfold placeI; rw [hk],h2⟩
theorem av_mem {a : Atm} {v : Int} : v ∈ avL a 5 ↔ (0 <= v ∧ v < 5) ∧ a.2.contains v = true := by
 unfold avL
 rw [List.mem_map]
 constructor
 ·rintro ⟨n,hn,rfl⟩
  have h1 := List.mem_filter.1 hn
  have h2 := List.mem_range.1 h1.1
  exact ⟨by omega,h1.2⟩
 ·rintro ⟨h1,h2⟩
  exact ⟨v.toNat,List.mem_filter.2 ⟨List.mem_range.2 (by omega),by rw [show ((v.toNat : Nat) : Int) = v by omega]; exact h2⟩,by omega⟩
def AtmOk (a : Atm) : Prop := a.2.length <= 5 ∧ ∀ v ∈ a.2,0 <= v ∧ v < 5
def fitR (V r : List Int) (k : Nat) : Bool := (List.range k).all fun i => atI r (placeI V (atI V (i : Int))) == atI r (i : Int)
theorem fitR_s (V r : List Int) (k : Nat) : fitR V r (k + 1) = (fitR V r k && (atI r (placeI V (atI V (k : Int))) == atI r (k : Int))) := by
 unfold fitR
 rw [List.range_succ,List.all_append]; simp
def rowOf (a : Atm) (r : List Int) : List Int := (avL a 5).map fun v => atI r (placeI a.2 v)
theorem atI_n {l : List Int} {k : Nat} (h : k < l.length) : atI l (k : Int) = l[k] := by unfold atI; rw [geti_at h]; rfl
theorem filt_map_s {α β : Type} (f : α -> Bool) (g : α -> β) {l : List α} {k : Nat} (hk : k < l.length) : ((l.take (k + 1)).filter f).map g = ((l.take k).filter f).map g ++ cond (f l[k]) [g l[k]] [] := by
 rw [filt_s f hk,List.map_append]
 cases f l[k] <;> rfl
def bindL (a : Atm) (R : List (List Int)) : List (List Int) := (R.filter fun r => fitR a.2 r a.2.length).map (rowOf a)
theorem bindL_len (a : Atm) (R : List (List Int)) (k : Nat) : ((((R.take k).filter fun r => fitR a.2 r a.2.length).map (rowOf a))).length <= k := by
 rw [List.length_map]
 exact Nat.le_trans (List.length_filter_le _ _) (by simp; omega)
def valK (V r : List Int) : Nat -> List Int
 | 0 => List.replicate 5 0
 | k + 1 => (valK V r k).set (atI V (k : Int)).toNat (atI r (k : Int))
theorem valK_len (V r : List Int) : ∀ k,(valK V r k).length = 5
 | 0 => rfl
 | k + 1 => by rw [valK,List.length_set]; exact valK_len V r k
theorem valK_at {V r : List Int} (h5 : ∀ v ∈ V,0 <= v ∧ v < 5) : ∀ k,k <= V.length -> fitR V r k = true -> ∀ v : Int,0 <= v -> (∃ i,∃ hi : i < k,atI V (i : Int) = v) -> atI (valK V r k) v = atI r (placeI V v)
 | 0,_,_,v,_,⟨i,hi,_⟩ => absurd hi (by omega)
 | k + 1,hk,hf,v,h0,⟨i,hi,he⟩ => by
  rw [fitR_s,Bool.and_eq_true] at hf
  have hkl : k < V.length := by omega
  have hvk := h5 _ (List.getElem_mem hkl)
  have hlen := valK_len V r k
  by_cases hv : atI V (k : Int) = v
  ·have h2 : atI r (placeI V (atI V (k : Int))) = atI r (k : Int) := by simpa using hf.2
   rw [hv] at h2
   rw [h2,valK,hv]
   rw [atI_n hkl] at hv
   obtain ⟨w,rfl⟩ : ∃ w : Nat,v = (w : Int) := ⟨v.toNat,by omega⟩
   rw [Int.toNat_natCast,atI_n (by rw [List.length_set]; omega),List.getElem_set_self]
  ·have hik : i < k := by
    rcases Nat.lt_or_ge i k with h | h
    ·exact h
    ·exfalso; apply hv; rw [<- he]; congr 1; omega
   have ih := valK_at h5 k (by omega) hf.1 v h0 ⟨i,hik,he⟩
   have hvi : v < 5 := by
    have hil : i < V.length := by omega
    rw [<- he,atI_n hil]; exact (h5 _ (List.getElem_mem hil)).2
   rw [<- ih,valK]
   have e : v = ((v.toNat : Nat) : Int) := by omega
   have h1 : v.toNat < (valK V r k).length := by omega
   have h2 : v.toNat < ((valK V r k).set (atI V (k : Int)).toNat (atI r (k : Int))).length := by rw [List.length_set]; exact h1
   conv => lhs; rw [e]
   conv => rhs; rw [e]
   rw [atI_n h2,atI_n h1,List.getElem_set]
   rw [if_neg (fun e2 => by rw [atI_n hkl] at e2 hv; omega)]
theorem i_vals {a : Atm} {r : List Int} (ha : AtmOk a) (hr : r.length = a.2.length) : loopF (impl_AtomBindings_B2 a r) fz (List.replicate (Int.toNat 5) (0 : Int),true,0) = some (valK a.2 r a.2.length,fitR a.2 r a.2.length) := by
 have := loop_to (body := impl_AtomBindings_B2 a r) (out := (valK a.2 r a.2.length,fitR a.2 r a.2.length)) (fun k => (valK a.2 r k,fitR a.2 r k,(k : Int))) a.2.length (fun k hk rec => by
  have hmem := List.getElem_mem hk
  have hv := ha.2 _ hmem
  have hin : a.2.contains a.2[k] = true := by rw [List.contains_iff_mem]; exact hmem
  obtain ⟨p,hp,e1,e2⟩ := place_in hin
  have hlen := valK_len a.2 r k
  have hkr : k < r.length := by omega
  have hJ : ∀ b : Bool,impl_AtomBindings_J3 rec r (valK a.2 r k) (k : Int) a.2[k] b = rec (valK a.2 r (k + 1),b,((k + 1 : Nat) : Int)) := by
   intro b
   have ev : a.2[k] = ((a.2[k].toNat : Nat) : Int) := by omega
   rw [impl_AtomBindings_J3,geti_at hkr,ob_s,wrap_s hk (by have := ha.1; unfold maxLen; omega),valK,atI_n hk,atI_n hkr]
   have hg : geti (valK a.2 r k) a.2[k] = some ((valK a.2 r k)[a.2[k].toNat]'(by omega)) := by
    conv => lhs; rw [ev]
    exact geti_at (by omega)
   rw [hg,ob_s]
   rfl
  rw [impl_AtomBindings_B2,fitR_s,atI_n hk]
  rw [lt_dec hk,geti_at hk,cond_true,ob_s,i_find (by have := ha.1; unfold lim; omega),ob_s,e1,geti_at (by omega : p < r.length),geti_at hkr,ob_s,ob_s,hJ,hJ,atI_n (by omega : p < r.length),atI_n hkr]
  cases fitR a.2 r k <;> rfl) (fun rec => by rw [impl_AtomBindings_B2]; rw [nlt_dec]; rfl) fz (lt_fz (by have := ha.1; unfold lim; omega))
 exact this
theorem i_binds {a : Atm} (ha : AtmOk a) {R : List (List Int)} {m : Int} (hR : ∀ r ∈ R,r.length = a.2.length) (hl : R.length <= 4000) : loopF (impl_AtomBindings_B1 a (avL a 5) ((m,R),true)) fz (([] : List (List Int)),0) = some (bindL a R) := by
 have := loop_to (body := impl_AtomBindings_B1 a (avL a 5) ((m,R),true)) (out := bindL a R) (fun k => (((R.take k).filter fun r => fitR a.2 r a.2.length).map (rowOf a),(k : Int))) R.length (fun k hk rec => by
  have hr := hR _ (List.getElem_mem hk)
  have hb := bindL_len a R k
  have hpick : fitR a.2 R[k] a.2.length = true -> impl_pick (valK a.2 R[k] a.2.length) (avL a 5) = some (rowOf a R[k]) := by
   intro hf
   have hl5 := avL_len a 5
   rw [i_pick (by unfold lim; omega) (fun c hc => by have := (av_mem.1 hc).1; rw [valK_len]; omega)]
   unfold pickB rowOf
   congr 1
   refine List.map_congr_left fun v hv => ?_
   have hm := av_mem.1 hv
   refine valK_at ha.2 a.2.length (Nat.le_refl _) hf v hm.1.1 ?_
   have := hm.2
   rw [List.contains_iff_mem] at this
   obtain ⟨i,hi,e⟩ := List.mem_iff_getElem.1 this
   exact ⟨i,hi,by rw [atI_n hi]; exact e⟩
  rw [impl_AtomBindings_B1,filt_map_s _ _ hk]
  rw [lt_dec hk,geti_at hk,cond_true,ob_s,chk_pos (by unfold lim; omega),i_vals ha hr,ob_s]
  simp only
  have hJ : ∀ y : List (List Int),impl_AtomBindings_J4 rec (k : Int) y = rec (y,((k + 1 : Nat) : Int)) := fun y => by rw [impl_AtomBindings_J4,wrap_s hk (by unfold maxLen; omega)]
  cases hf : fitR a.2 R[k] a.2.length with
  | true => rw [cond_true,hpick hf,ob_s,chk_pos (by simp only [List.length_singleton]; unfold lim; omega),hJ]; rfl
  | false => rw [cond_false,cond_false,List.append_nil,hJ]) (fun rec => by rw [impl_AtomBindings_B1]; rw [nlt_dec,List.take_length]; rfl) fz (lt_fz (by unfold lim; omega))
 exact this
theorem rel_sort {m : Int} {L : List (List Int)} (hm : btw m 0 5 = true) (hl : L.length <= 4000) (hr : ∀ r ∈ L,(r.length : Int) = m ∧ avvB r = true) : relB (m,sortB L) = true := by
 unfold relB
 simp only [Bool.and_eq_true,Bool.not_eq_true',decide_eq_false_iff_not]
 refine ⟨hm,by have := sort_len L; omega,badAny_of fun i hi => ?_⟩
 have h1 := hr _ ((sort_mem L _).1 (List.getElem_mem hi))
 unfold rowBad
 rw [h1.2,h1.1]
 simp only [bne_self_eq_false,Bool.not_true,Bool.false_or]
 by_cases h0 : 0 < i
 ·rw [decide_eq_true h0,Bool.true_and,atB_lt (by omega : i - 1 < (sortB L).length)]
  have := List.pairwise_iff_getElem.1 (sort_srt L) (i - 1) i (by omega) hi (by omega)
  exact decide_eq_false (by omega)
 ·rw [decide_eq_false h0,Bool.false_and]
theorem nr_ok {m : Int} {L : List (List Int)} (hm : btw m 0 5 = true) (hl : L.length <= 4000) (hr : ∀ r ∈ L,(r.length : Int) = m ∧ avvB r = true) : nrB m L = ((m,sortB L),true) := by
 unfold nrB
 have e : badAny L (fun _ x => nrBad m x) = false := badAny_of fun i hi => by
  have h1 := hr _ (List.getElem_mem hi)
  unfold nrBad
  rw [h1.2,h1.1]; simp
 rw [e,rel_sort hm hl hr]; rfl
theorem rel_rows {r : Int × List (List Int)} (h : relB r = true) : 0 <= r.1 ∧ r.1 <= 5 ∧ r.2.length <= 4000 ∧ ∀ x ∈ r.2,(x.length : Int) = r.1 ∧ avvB x = true := by
 unfold relB btw at h
 simp only [Bool.and_eq_true,decide_eq_true_eq,Bool.not_eq_true',decide_eq_false_iff_not] at h
 refine ⟨h.1.1,h.1.2,by omega,fun x hx => ?_⟩
 obtain ⟨i,hi,rfl⟩ := List.mem_iff_getElem.1 hx
 have := badAny_f h.2.2 hi
 unfold rowBad at this
 simp only [Bool.or_eq_false_iff,Bool.not_eq_false'] at this
 exact ⟨by simpa using this.1.1,this.1.2⟩
theorem avv_at {x : List Int} (h : avvB x = true) {k : Nat} (hk : k < x.length) : 0 <= x[k] ∧ x[k] <= 99 := by
 unfold avvB at h
 simp only [Bool.not_eq_true'] at h
 have := badAny_f h hk
 unfold btw at this
 simpa using this
theorem avv_of {x : List Int} (h : ∀ v ∈ x,0 <= v ∧ v <= 99) : avvB x = true := by
 unfold avvB
 rw [badAny_of fun i hi => by have := h _ (List.getElem_mem hi); unfold btw; simp; omega]
 rfl
theorem look_rel {d : List Tbl} {nm : List UInt8} (h : (lookB d nm).2 = true) : relB (lookB d nm).1 = true ∧ (lookB d nm).1.2.length <= 16 := by
 unfold lookB at *
 split at h
 ·rename_i hd
  rw [if_pos hd]
  cases hf : d.find? (fun t => t.1 == nm) with
  | none => rw [hf] at h; cases h
  | some t =>
   simp only
   have hm := List.mem_of_find?_eq_some hf
   unfold dbB at hd
   simp only [Bool.and_eq_true,Bool.not_eq_true'] at hd
   obtain ⟨i,hi,rfl⟩ := List.mem_iff_getElem.1 hm
   have := badAny_f hd.2 hi
   unfold tblBad at this
   simp only [Bool.or_eq_false_iff,Bool.not_eq_false',decide_eq_false_iff_not] at this
   exact ⟨this.1.1.2,by have := this.1.2; omega⟩
 ·cases h
def abB (d : List Tbl) (a : Atm) : Int × List (List Int) := (((avL a 5).length : Int),sortB (bindL a (lookB d a.1).1.2))
theorem row_ok {a : Atm} {r : List Int} (ha : AtmOk a) (hr : r.length = a.2.length) (hv : avvB r = true) : ((rowOf a r).length : Int) = ((avL a 5).length : Int) ∧ avvB (rowOf a r) = true := by
 refine ⟨by unfold rowOf; rw [List.length_map],avv_of fun v hvm => ?_⟩
 unfold rowOf at hvm
 obtain ⟨u,hu,rfl⟩ := List.mem_map.1 hvm
 obtain ⟨p,hp,e1,e2⟩ := place_in (av_mem.1 hu).2
 rw [e1,atI_n (by omega : p < r.length)]
 exact avv_at hv (by omega)
theorem ab_rows {d : List Tbl} {a : Atm} (ha : AtmOk a) (hf : atomFit d a = true) : (∀ r ∈ (lookB d a.1).1.2,r.length = a.2.length) ∧ (lookB d a.1).1.2.length <= 16 ∧ ∀ r ∈ bindL a (lookB d a.1).1.2,(r.length : Int) = ((avL a 5).length : Int) ∧ avvB r = true := by
 unfold atomFit at hf
 rw [Bool.and_eq_true] at hf
 have h1 := look_rel hf.1
 have h2 := rel_rows h1.1
 have h3 : (lookB d a.1).1.1 = (a.2.length : Int) := by simpa using hf.2
 have h4 : ∀ r ∈ (lookB d a.1).1.2,r.length = a.2.length := fun r hr => by have := (h2.2.2.2 r hr).1; omega
 refine ⟨h4,h1.2,fun r hr => ?_⟩
 unfold bindL at hr
 obtain ⟨x,hx,rfl⟩ := List.mem_map.1 hr
 have hx := (List.mem_filter.1 hx).1
 exact row_ok ha (h4 x hx) (h2.2.2.2 x hx).2
theorem bind_le (a : Atm) (R : List (List Int)) : (bindL a R).length <= R.length := by
 unfold bindL
 rw [List.length_map]
 exact List.length_filter_le _ _
theorem av5 (a : Atm) : btw ((avL a 5).length : Int) 0 5 = true := by have := avL_len a 5; unfold btw; simp; omega
theorem bind_sm {d : List Tbl} {a : Atm} (ha : AtmOk a) (hf : atomFit d a = true) : smRows (bindL a (lookB d a.1).1.2) := by
 obtain ⟨h1,h2,h3⟩ := ab_rows ha hf
 have h4 := bind_le a (lookB d a.1).1.2
 have h5 := avL_len a 5
 exact ⟨by unfold lim; omega,fun r hr => by have := (h3 r hr).1; unfold lim; omega⟩
theorem i_cfit {n : Int} {l : List Int} (hn : 1 <= n ∧ n <= 5) (hl : l.length <= 5) (h : ∀ v ∈ l,0 <= v ∧ v < n) : impl_columnsFit n l = some true := by
 unfold impl_columnsFit
 rw [decide_eq_false (by omega),cond_false,all_loop (n := l.length) (fun k => atB l k fun v => outB n v) (by unfold lim; omega) (fun k hk rec => by
  rw [impl_columnsFit_B1]
  rw [lt_dec hk,geti_at hk,wrap_s hk (by unfold maxLen; omega),atB_lt hk,cond_true,ob_s,i_within,ob_s]; rfl) (fun rec => by rw [impl_columnsFit_B1]; rw [nlt_dec]; rfl),ob_s]
 have e : ((List.range l.length).any fun k => atB l k fun v => outB n v) = false := badAny_of (l := l) (f := fun _ v => outB n v) fun i hi => by
  have := h _ (List.getElem_mem hi)
  unfold outB btw
  rw [wrap_in (by omega)]; simp; omega
 rw [e]; rfl
theorem i_ab {d : List Tbl} {a : Atm} (h : smDb d) (ha : AtmOk a) (hf : atomFit d a = true) : impl_AtomBindings d a = some (abB d a) := by
 obtain ⟨h1,h2,h3⟩ := ab_rows ha hf
 have hf' := hf
 unfold atomFit at hf'
 rw [Bool.and_eq_true] at hf'
 have hal : a.2.length <= lim := by have := ha.1; unfold lim; omega
 unfold impl_AtomBindings abB
 rw [i_av hal (fun v => i_cv hal v),ob_s,i_look h,ob_s,hf'.1,Bool.not_true,cond_false,show ((lookB d a.1).1.1 != (a.2.length : Int)) = false by rw [bne,hf'.2]; rfl,cond_false,i_cfit (by omega) ha.1 ha.2,ob_s,Bool.not_true,cond_false]
 have hb := i_binds ha (R := (lookB d a.1).1.2) (m := (lookB d a.1).1.1) h1 (by omega)
 have e : lookB d a.1 = (((lookB d a.1).1.1,(lookB d a.1).1.2),true) := by rw [<- hf'.1]
 rw [<- e] at hb
 rw [hb,ob_s,i_sort (bind_sm ha hf),ob_s]
theorem ab_rel {d : List Tbl} {a : Atm} (ha : AtmOk a) (hf : atomFit d a = true) : relB (abB d a) = true ∧ (abB d a).2.length <= 16 := by
 obtain ⟨h1,h2,h3⟩ := ab_rows ha hf
 have h4 := bind_le a (lookB d a.1).1.2
 have h5 := sort_len (bindL a (lookB d a.1).1.2)
 exact ⟨rel_sort (av5 a) (by omega) h3,by unfold abB; simp only; omega⟩
theorem qfor_facts {d : List Tbl} {q : Qry} (h : qforB d q = true) : qryB q = true ∧ (∀ a ∈ q.2.1,AtmOk a ∧ atomFit d a = true) ∧ q.2.1.length <= 4 := by
 unfold qforB at h
 simp only [Bool.and_eq_true,Bool.not_eq_true'] at h
 obtain ⟨h1,h2,h3⟩ := h
 obtain ⟨g1,g2,g3,g4⟩ := qry_facts h1
 refine ⟨h1,fun a ha => ⟨⟨(g4 a ha).2.1,fun v hv => ?_⟩,?_⟩,g3⟩
 ·have := (g4 a ha).2.2 v hv; omega
 ·have := badAny_mem h3 ha; simpa using this
end Go.Proofs.YtceghmdneadhbaaGreat
