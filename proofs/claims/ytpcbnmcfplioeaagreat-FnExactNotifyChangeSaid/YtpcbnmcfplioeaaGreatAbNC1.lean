/-
 The bindings of an atom: the reference and the program agree. On the printed functions; conditions: the atom fits its relation.
-/
import Derived.Test.YtpcbnmcfplioeaaGreatNrNC1
import Derived.Test.YtpcbnmcfplioeaaGreatTvNC1
namespace Go.Proofs.YtpcbnmcfplioeaaGreat
open Go.RowKit
set_option linter.unusedVariables false
set_option linter.unusedSimpArgs false
theorem cX {l : List Int} {v : Int} {k : Nat} (h : PY l v = some k) : ∃ hk : k < l.length,l[k] = v:=by
 unfold PY at h
 obtain ⟨j,hj,he⟩:=List.exists_of_findSome?_eq_some h
 have hj:=List.mem_range.1 hj
 rw [AY hj] at he
 split at he
 ·rename_i hb
  injection he with he
  subst he
  exact ⟨hj,by simpa using hb⟩
 ·cases he
theorem Jg {l : List Int} {v : Int} (h : l.contains v = true) : ∃ k : Nat,∃ hk : k < l.length,Cc l v = (k : Int) ∧ l[k] = v:=by
 rw [<- N6] at h
 obtain ⟨k,hk⟩:=Option.isSome_iff_exists.1 h
 obtain ⟨h1,h2⟩:=cX hk
 exact ⟨k,h1,by unfold Cc; rw [hk],h2⟩
theorem LE {a : Atm} {v : Int} : v ∈ avL a 5 ↔ (0 <= v ∧ v < 5) ∧ a.2.contains v = true:=by
 unfold avL
 rw [List.mem_map]
 constructor
 ·rintro ⟨n,hn,rfl⟩
  have h1:=List.mem_filter.1 hn
  have h2:=List.mem_range.1 h1.1
  exact ⟨by omega,h1.2⟩
 ·rintro ⟨h1,h2⟩
  exact ⟨v.toNat,List.mem_filter.2 ⟨List.mem_range.2 (by omega),by rw [show ((v.toNat : Nat) : Int) = v by omega]; exact h2⟩,by omega⟩
def QB (a : Atm) : Prop:=a.2.length <= 5 ∧ ∀ v ∈ a.2,0 <= v ∧ v < 5
def Uh (V r : List Int) (k : Nat) : Bool:=(List.range k).all fun i => atI r (Cc V (atI V (i : Int))) == atI r (i : Int)
theorem br (V r : List Int) (k : Nat) : Uh V r (k + 1) = (Uh V r k && (atI r (Cc V (atI V (k : Int))) == atI r (k : Int))):=by
 unfold Uh
 rw [List.range_succ,List.all_append]; simp
def rowOf (a : Atm) (r : List Int) : List Int:=(avL a 5).map fun v => atI r (Cc a.2 v)
theorem Gn {l : List Int} {k : Nat} (h : k < l.length) : atI l (k : Int) = l[k]:=by unfold atI; rw [Am h]; rfl
theorem Wi {α β : Type} (f : α -> Bool) (g : α -> β) {l : List α} {k : Nat} (hk : k < l.length) : ((l.take (k + 1)).filter f).map g = ((l.take k).filter f).map g ++ cond (f l[k]) [g l[k]] []:=by
 rw [gz f hk,List.map_append]
 cases f l[k] <;> rfl
def PG (a : Atm) (R : List (List Int)) : List (List Int):=(R.filter fun r => Uh a.2 r a.2.length).map (rowOf a)
theorem WV (a : Atm) (R : List (List Int)) (k : Nat) : ((((R.take k).filter fun r => Uh a.2 r a.2.length).map (rowOf a))).length <= k:=by
 rw [List.length_map]
 exact Nat.le_trans (List.length_filter_le _ _) (by simp; omega)
def TL (V r : List Int) : Nat -> List Int
 | 0 => List.replicate 5 0
 | k + 1 => (TL V r k).set (atI V (k : Int)).toNat (atI r (k : Int))
theorem Pv (V r : List Int) : ∀ k,(TL V r k).length = 5
 | 0 => rfl
 | k + 1 => by rw [TL,List.length_set]; exact Pv V r k
theorem Y2 {V r : List Int} (h5 : ∀ v ∈ V,0 <= v ∧ v < 5) : ∀ k,k <= V.length -> Uh V r k = true -> ∀ v : Int,0 <= v -> (∃ i,∃ hi : i < k,atI V (i : Int) = v) -> atI (TL V r k) v = atI r (Cc V v)
 | 0,_,_,v,_,⟨i,hi,_⟩ => absurd hi (by omega)
 | k + 1,hk,hf,v,h0,⟨i,hi,he⟩ => by
  rw [br,Bool.and_eq_true] at hf
  have hkl : k < V.length:=by omega
  have hvk:=h5 _ (List.getElem_mem hkl)
  have hlen:=Pv V r k
  by_cases hv : atI V (k : Int) = v
  ·have h2 : atI r (Cc V (atI V (k : Int))) = atI r (k : Int):=by simpa using hf.2
   rw [hv] at h2
   rw [h2,TL,hv]
   rw [Gn hkl] at hv
   obtain ⟨w,rfl⟩ : ∃ w : Nat,v = (w : Int):=⟨v.toNat,by omega⟩
   rw [Int.toNat_natCast,Gn (by rw [List.length_set]; omega),List.getElem_set_self]
  ·have hik : i < k:=by
    rcases Nat.lt_or_ge i k with h | h
    ·exact h
    ·exfalso; apply hv; rw [<- he]; congr 1; omega
   have ih:=Y2 h5 k (by omega) hf.1 v h0 ⟨i,hik,he⟩
   have hvi : v < 5:=by
    have hil : i < V.length:=by omega
    rw [<- he,Gn hil]; exact (h5 _ (List.getElem_mem hil)).2
   rw [<- ih,TL]
   have e : v = ((v.toNat : Nat) : Int):=by omega
   have h1 : v.toNat < (TL V r k).length:=by omega
   have h2 : v.toNat < ((TL V r k).set (atI V (k : Int)).toNat (atI r (k : Int))).length:=by rw [List.length_set]; exact h1
   conv => lhs; rw [e]
   conv => rhs; rw [e]
   rw [Gn h2,Gn h1,List.getElem_set]
   rw [if_neg (fun e2 => by rw [Gn hkl] at e2 hv; omega)]
theorem gW {a : Atm} {r : List Int} (ha : QB a) (hr : r.length = a.2.length) : Ao (BN a r) fz (List.replicate (Int.toNat 5) (0 : Int),true,0) = some (TL a.2 r a.2.length,Uh a.2 r a.2.length):=by
 have:=DN (body:=BN a r) (out:=(TL a.2 r a.2.length,Uh a.2 r a.2.length)) (fun k => (TL a.2 r k,Uh a.2 r k,(k : Int))) a.2.length (fun k hk rec => by
  have hmem:=List.getElem_mem hk
  have hv:=ha.2 _ hmem
  have hin : a.2.contains a.2[k] = true:=by rw [List.contains_iff_mem]; exact hmem
  obtain ⟨p,hp,e1,e2⟩:=Jg hin
  have hlen:=Pv a.2 r k
  have hkr : k < r.length:=by omega
  have hJ : ∀ b : Bool,Co rec r (TL a.2 r k) (k : Int) a.2[k] b = rec (TL a.2 r (k + 1),b,((k + 1 : Nat) : Int)):=by
   intro b
   have ev : a.2[k] = ((a.2[k].toNat : Nat) : Int):=by omega
   rw [Co,Am hkr,AR,AS hk (by have:=ha.1; unfold maxLen; omega),TL,Gn hk,Gn hkr]
   have hg : AO (TL a.2 r k) a.2[k] = some ((TL a.2 r k)[a.2[k].toNat]'(by omega)):=by
    conv => lhs; rw [ev]
    exact Am (by omega)
   rw [hg,AR]
   rfl
  rw [BN,br,Gn hk]
  rw [AL hk,Am hk,cond_true,AR,Mt (by have:=ha.1; unfold lim; omega),AR,e1,Am (by omega : p < r.length),Am hkr,AR,AR,hJ,hJ,Gn (by omega : p < r.length),Gn hkr]
  cases Uh a.2 r k <;> rfl) (fun rec => by rw [BN]; rw [AG]; rfl) fz (HP (by have:=ha.1; unfold lim; omega))
 exact this
theorem c9 {a : Atm} (ha : QB a) {R : List (List Int)} {m : Int} (hR : ∀ r ∈ R,r.length = a.2.length) (hl : R.length <= 4000) : Ao (BM a (avL a 5) ((m,R),true)) fz (([] : List (List Int)),0) = some (PG a R):=by
 have:=DN (body:=BM a (avL a 5) ((m,R),true)) (out:=PG a R) (fun k => (((R.take k).filter fun r => Uh a.2 r a.2.length).map (rowOf a),(k : Int))) R.length (fun k hk rec => by
  have hr:=hR _ (List.getElem_mem hk)
  have hb:=WV a R k
  have hpick : Uh a.2 R[k] a.2.length = true -> JA (TL a.2 R[k] a.2.length) (avL a 5) = some (rowOf a R[k]):=by
   intro hf
   have hl5:=PF a 5
   rw [bB (by unfold lim; omega) (fun c hc => by have:=(LE.1 hc).1; rw [Pv]; omega)]
   unfold FV rowOf
   congr 1
   refine List.map_congr_left fun v hv => ?_
   have hm:=LE.1 hv
   refine Y2 ha.2 a.2.length (Nat.le_refl _) hf v hm.1.1 ?_
   have:=hm.2
   rw [List.contains_iff_mem] at this
   obtain ⟨i,hi,e⟩:=List.mem_iff_getElem.1 this
   exact ⟨i,hi,by rw [Gn hi]; exact e⟩
  rw [BM,Wi _ _ hk]
  rw [AL hk,Am hk,cond_true,AR,Ap (by unfold lim; omega),gW ha hr,AR]
  simp only
  have hJ : ∀ y : List (List Int),Cp rec (k : Int) y = rec (y,((k + 1 : Nat) : Int)):=fun y => by rw [Cp,AS hk (by unfold maxLen; omega)]
  cases hf : Uh a.2 R[k] a.2.length with
  | true => rw [cond_true,hpick hf,AR,Ap (by simp only [List.length_singleton]; unfold lim; omega),hJ]; rfl
  | false => rw [cond_false,cond_false,List.append_nil,hJ]) (fun rec => by rw [BM]; rw [AG,List.take_length]; rfl) fz (HP (by unfold lim; omega))
 exact this
theorem VL {m : Int} {L : List (List Int)} (hm : btw m 0 5 = true) (hl : L.length <= 4000) (hr : ∀ r ∈ L,(r.length : Int) = m ∧ NY r = true) : FZ (m,sortB L) = true:=by
 unfold FZ
 simp only [Bool.and_eq_true,Bool.not_eq_true',decide_eq_false_iff_not]
 refine ⟨hm,by have:=Hj L; omega,LF fun i hi => ?_⟩
 have h1:=hr _ ((FE L _).1 (List.getElem_mem hi))
 unfold Lt
 rw [h1.2,h1.1]
 simp only [bne_self_eq_false,Bool.not_true,Bool.false_or]
 by_cases h0 : 0 < i
 ·rw [decide_eq_true h0,Bool.true_and,AY (by omega : i - 1 < (sortB L).length)]
  have:=List.pairwise_iff_getElem.1 (HT L) (i - 1) i (by omega) hi (by omega)
  exact decide_eq_false (by omega)
 ·rw [decide_eq_false h0,Bool.false_and]
theorem oe {m : Int} {L : List (List Int)} (hm : btw m 0 5 = true) (hl : L.length <= 4000) (hr : ∀ r ∈ L,(r.length : Int) = m ∧ NY r = true) : nrB m L = ((m,sortB L),true):=by
 unfold nrB
 have e : A1 L (fun _ x => MX m x) = false:=LF fun i hi => by
  have h1:=hr _ (List.getElem_mem hi)
  unfold MX
  rw [h1.2,h1.1]; simp
 rw [e,VL hm hl hr]; rfl
theorem NF {r : Int × List (List Int)} (h : FZ r = true) : 0 <= r.1 ∧ r.1 <= 5 ∧ r.2.length <= 4000 ∧ ∀ x ∈ r.2,(x.length : Int) = r.1 ∧ NY x = true:=by
 unfold FZ btw at h
 simp only [Bool.and_eq_true,decide_eq_true_eq,Bool.not_eq_true',decide_eq_false_iff_not] at h
 refine ⟨h.1.1,h.1.2,by omega,fun x hx => ?_⟩
 obtain ⟨i,hi,rfl⟩:=List.mem_iff_getElem.1 hx
 have:=He h.2.2 hi
 unfold Lt at this
 simp only [Bool.or_eq_false_iff,Bool.not_eq_false'] at this
 exact ⟨by simpa using this.1.1,this.1.2⟩
theorem SX {x : List Int} (h : NY x = true) {k : Nat} (hk : k < x.length) : 0 <= x[k] ∧ x[k] <= 99:=by
 unfold NY at h
 simp only [Bool.not_eq_true'] at h
 have:=He h hk
 unfold btw at this
 simpa using this
theorem WT {x : List Int} (h : ∀ v ∈ x,0 <= v ∧ v <= 99) : NY x = true:=by
 unfold NY
 rw [LF fun i hi => by have:=h _ (List.getElem_mem hi); unfold btw; simp; omega]
 rfl
theorem R6 {d : List Tbl} {nm : List UInt8} (h : (B8 d nm).2 = true) : FZ (B8 d nm).1 = true ∧ (B8 d nm).1.2.length <= 16:=by
 unfold B8 at *
 split at h
 ·rename_i hd
  rw [if_pos hd]
  cases hf : d.find? (fun t => t.1 == nm) with
  | none => rw [hf] at h; cases h
  | some t =>
   simp only
   have hm:=List.mem_of_find?_eq_some hf
   unfold dbB at hd
   simp only [Bool.and_eq_true,Bool.not_eq_true'] at hd
   obtain ⟨i,hi,rfl⟩:=List.mem_iff_getElem.1 hm
   have:=He hd.2 hi
   unfold Ma at this
   simp only [Bool.or_eq_false_iff,Bool.not_eq_false',decide_eq_false_iff_not] at this
   exact ⟨this.1.1.2,by have:=this.1.2; omega⟩
 ·cases h
def abB (d : List Tbl) (a : Atm) : Int × List (List Int):=(((avL a 5).length : Int),sortB (PG a (B8 d a.1).1.2))
theorem ku {a : Atm} {r : List Int} (ha : QB a) (hr : r.length = a.2.length) (hv : NY r = true) : ((rowOf a r).length : Int) = ((avL a 5).length : Int) ∧ NY (rowOf a r) = true:=by
 refine ⟨by unfold rowOf; rw [List.length_map],WT fun v hvm => ?_⟩
 unfold rowOf at hvm
 obtain ⟨u,hu,rfl⟩:=List.mem_map.1 hvm
 obtain ⟨p,hp,e1,e2⟩:=Jg (LE.1 hu).2
 rw [e1,Gn (by omega : p < r.length)]
 exact SX hv (by omega)
theorem Px {d : List Tbl} {a : Atm} (ha : QB a) (hf : Gp d a = true) : (∀ r ∈ (B8 d a.1).1.2,r.length = a.2.length) ∧ (B8 d a.1).1.2.length <= 16 ∧ ∀ r ∈ PG a (B8 d a.1).1.2,(r.length : Int) = ((avL a 5).length : Int) ∧ NY r = true:=by
 unfold Gp at hf
 rw [Bool.and_eq_true] at hf
 have h1:=R6 hf.1
 have h2:=NF h1.1
 have h3 : (B8 d a.1).1.1 = (a.2.length : Int):=by simpa using hf.2
 have h4 : ∀ r ∈ (B8 d a.1).1.2,r.length = a.2.length:=fun r hr => by have:=(h2.2.2.2 r hr).1; omega
 refine ⟨h4,h1.2,fun r hr => ?_⟩
 unfold PG at hr
 obtain ⟨x,hx,rfl⟩:=List.mem_map.1 hr
 have hx:=(List.mem_filter.1 hx).1
 exact ku ha (h4 x hx) (h2.2.2.2 x hx).2
theorem WW (a : Atm) (R : List (List Int)) : (PG a R).length <= R.length:=by
 unfold PG
 rw [List.length_map]
 exact List.length_filter_le _ _
theorem av5 (a : Atm) : btw ((avL a 5).length : Int) 0 5 = true:=by have:=PF a 5; unfold btw; simp; omega
theorem cC {d : List Tbl} {a : Atm} (ha : QB a) (hf : Gp d a = true) : Bl (PG a (B8 d a.1).1.2):=by
 obtain ⟨h1,h2,h3⟩:=Px ha hf
 have h4:=WW a (B8 d a.1).1.2
 have h5:=PF a 5
 exact ⟨by unfold lim; omega,fun r hr => by have:=(h3 r hr).1; unfold lim; omega⟩
theorem gH {n : Int} {l : List Int} (hn : 1 <= n ∧ n <= 5) (hl : l.length <= 5) (h : ∀ v ∈ l,0 <= v ∧ v < n) : Dg n l = some true:=by
 unfold Dg
 rw [decide_eq_false (by omega),cond_false,BS (n:=l.length) (fun k => atB l k fun v => ls n v) (by unfold lim; omega) (fun k hk rec => by
  rw [Dr]
  rw [AL hk,Am hk,AS hk (by unfold maxLen; omega),AY hk,cond_true,AR,I9,AR]; rfl) (fun rec => by rw [Dr]; rw [AG]; rfl),AR]
 have e : ((List.range l.length).any fun k => atB l k fun v => ls n v) = false:=LF (l:=l) (f:=fun _ v => ls n v) fun i hi => by
  have:=h _ (List.getElem_mem hi)
  unfold ls btw
  rw [wrap_in (by omega)]; simp; omega
 rw [e]; rfl
theorem pC {d : List Tbl} {a : Atm} (h : KU d) (ha : QB a) (hf : Gp d a = true) : Fb d a = some (abB d a):=by
 obtain ⟨h1,h2,h3⟩:=Px ha hf
 have hf':=hf
 unfold Gp at hf'
 rw [Bool.and_eq_true] at hf'
 have hal : a.2.length <= lim:=by have:=ha.1; unfold lim; omega
 unfold Fb abB
 rw [oV hal (fun v => oW hal v),AR,Vj h,AR,hf'.1,Bool.not_true,cond_false,show ((B8 d a.1).1.1 != (a.2.length : Int)) = false by rw [bne,hf'.2]; rfl,cond_false,gH (by omega) ha.1 ha.2,AR,Bool.not_true,cond_false]
 have hb:=c9 ha (R:=(B8 d a.1).1.2) (m:=(B8 d a.1).1.1) h1 (by omega)
 have e : B8 d a.1 = (((B8 d a.1).1.1,(B8 d a.1).1.2),true):=by rw [<- hf'.1]
 rw [<- e] at hb
 rw [hb,AR,XG (cC ha hf),AR]
theorem fA {d : List Tbl} {a : Atm} (ha : QB a) (hf : Gp d a = true) : FZ (abB d a) = true ∧ (abB d a).2.length <= 16:=by
 obtain ⟨h1,h2,h3⟩:=Px ha hf
 have h4:=WW a (B8 d a.1).1.2
 have h5:=Hj (PG a (B8 d a.1).1.2)
 exact ⟨VL (av5 a) (by omega) h3,by unfold abB; simp only; omega⟩
theorem Jp {d : List Tbl} {q : Qry} (h : Mp d q = true) : UH q = true ∧ (∀ a ∈ q.2.1,QB a ∧ Gp d a = true) ∧ q.2.1.length <= 4:=by
 unfold Mp at h
 simp only [Bool.and_eq_true,Bool.not_eq_true'] at h
 obtain ⟨h1,h2,h3⟩:=h
 obtain ⟨g1,g2,g3,g4⟩:=JR h1
 refine ⟨h1,fun a ha => ⟨⟨(g4 a ha).2.1,fun v hv => ?_⟩,?_⟩,g3⟩
 ·have:=(g4 a ha).2.2 v hv; omega
 ·have:=KA h3 ha; simpa using this
end Go.Proofs.YtpcbnmcfplioeaaGreat
