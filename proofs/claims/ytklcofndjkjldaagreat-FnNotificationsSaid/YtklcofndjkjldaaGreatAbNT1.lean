/-
 The bindings of an atom: the reference and the program agree. On the printed functions; conditions: the atom fits its relation.
-/
import Derived.Test.YtklcofndjkjldaaGreatNrNT1
import Derived.Test.YtklcofndjkjldaaGreatTvNT1
namespace Go.Proofs.YtklcofndjkjldaaGreat
open Go.RowKit
set_option linter.unusedVariables false
set_option linter.unusedSimpArgs false
theorem Yb {l : List Int} {v : Int} {k : Nat} (h : NA l v = some k) : ∃ hk : k < l.length,l[k] = v:=by
 unfold NA at h
 obtain ⟨j,hj,he⟩:=List.exists_of_findSome?_eq_some h
 have hj:=List.mem_range.1 hj
 rw [AN hj] at he
 split at he
 ·rename_i hb
  injection he with he
  subst he
  exact ⟨hj,by simpa using hb⟩
 ·cases he
theorem IG {l : List Int} {v : Int} (h : l.contains v = true) : ∃ k : Nat,∃ hk : k < l.length,Cg l v = (k : Int) ∧ l[k] = v:=by
 rw [<- Mh] at h
 obtain ⟨k,hk⟩:=Option.isSome_iff_exists.1 h
 obtain ⟨h1,h2⟩:=Yb hk
 exact ⟨k,h1,by unfold Cg; rw [hk],h2⟩
theorem Kb {a : Atm} {v : Int} : v ∈ avL a 5 ↔ (0 <= v ∧ v < 5) ∧ a.2.contains v = true:=by
 unfold avL
 rw [List.mem_map]
 constructor
 ·rintro ⟨n,hn,rfl⟩
  have h1:=List.mem_filter.1 hn
  have h2:=List.mem_range.1 h1.1
  exact ⟨by omega,h1.2⟩
 ·rintro ⟨h1,h2⟩
  exact ⟨v.toNat,List.mem_filter.2 ⟨List.mem_range.2 (by omega),by rw [show ((v.toNat : Nat) : Int) = v by omega]; exact h2⟩,by omega⟩
def Oe (a : Atm) : Prop:=a.2.length <= 5 ∧ ∀ v ∈ a.2,0 <= v ∧ v < 5
def Q6 (V r : List Int) (k : Nat) : Bool:=(List.range k).all fun i => atI r (Cg V (atI V (i : Int))) == atI r (i : Int)
theorem Xb (V r : List Int) (k : Nat) : Q6 V r (k + 1) = (Q6 V r k && (atI r (Cg V (atI V (k : Int))) == atI r (k : Int))):=by
 unfold Q6
 rw [List.range_succ,List.all_append]; simp
def rowOf (a : Atm) (r : List Int) : List Int:=(avL a 5).map fun v => atI r (Cg a.2 v)
theorem Gb {l : List Int} {k : Nat} (h : k < l.length) : atI l (k : Int) = l[k]:=by unfold atI; rw [Aj h]; rfl
theorem S8 {α β : Type} (f : α -> Bool) (g : α -> β) {l : List α} {k : Nat} (hk : k < l.length) : ((l.take (k + 1)).filter f).map g = ((l.take k).filter f).map g ++ cond (f l[k]) [g l[k]] []:=by
 rw [ae f hk,List.map_append]
 cases f l[k] <;> rfl
def Nr (a : Atm) (R : List (List Int)) : List (List Int):=(R.filter fun r => Q6 a.2 r a.2.length).map (rowOf a)
theorem TM (a : Atm) (R : List (List Int)) (k : Nat) : ((((R.take k).filter fun r => Q6 a.2 r a.2.length).map (rowOf a))).length <= k:=by
 rw [List.length_map]
 exact Nat.le_trans (List.length_filter_le _ _) (by simp; omega)
def QI (V r : List Int) : Nat -> List Int
 | 0 => List.replicate 5 0
 | k + 1 => (QI V r k).set (atI V (k : Int)).toNat (atI r (k : Int))
theorem Nf (V r : List Int) : ∀ k,(QI V r k).length = 5
 | 0 => rfl
 | k + 1 => by rw [QI,List.length_set]; exact Nf V r k
theorem Vr {V r : List Int} (h5 : ∀ v ∈ V,0 <= v ∧ v < 5) : ∀ k,k <= V.length -> Q6 V r k = true -> ∀ v : Int,0 <= v -> (∃ i,∃ hi : i < k,atI V (i : Int) = v) -> atI (QI V r k) v = atI r (Cg V v)
 | 0,_,_,v,_,⟨i,hi,_⟩ => absurd hi (by omega)
 | k + 1,hk,hf,v,h0,⟨i,hi,he⟩ => by
  rw [Xb,Bool.and_eq_true] at hf
  have hkl : k < V.length:=by omega
  have hvk:=h5 _ (List.getElem_mem hkl)
  have hlen:=Nf V r k
  by_cases hv : atI V (k : Int) = v
  ·have h2 : atI r (Cg V (atI V (k : Int))) = atI r (k : Int):=by simpa using hf.2
   rw [hv] at h2
   rw [h2,QI,hv]
   rw [Gb hkl] at hv
   obtain ⟨w,rfl⟩ : ∃ w : Nat,v = (w : Int):=⟨v.toNat,by omega⟩
   rw [Int.toNat_natCast,Gb (by rw [List.length_set]; omega),List.getElem_set_self]
  ·have hik : i < k:=by
    rcases Nat.lt_or_ge i k with h | h
    ·exact h
    ·exfalso; apply hv; rw [<- he]; congr 1; omega
   have ih:=Vr h5 k (by omega) hf.1 v h0 ⟨i,hik,he⟩
   have hvi : v < 5:=by
    have hil : i < V.length:=by omega
    rw [<- he,Gb hil]; exact (h5 _ (List.getElem_mem hil)).2
   rw [<- ih,QI]
   have e : v = ((v.toNat : Nat) : Int):=by omega
   have h1 : v.toNat < (QI V r k).length:=by omega
   have h2 : v.toNat < ((QI V r k).set (atI V (k : Int)).toNat (atI r (k : Int))).length:=by rw [List.length_set]; exact h1
   conv => lhs; rw [e]
   conv => rhs; rw [e]
   rw [Gb h2,Gb h1,List.getElem_set]
   rw [if_neg (fun e2 => by rw [Gb hkl] at e2 hv; omega)]
theorem aA {a : Atm} {r : List Int} (ha : Oe a) (hr : r.length = a.2.length) : Al (BL a r) fz (List.replicate (Int.toNat 5) (0 : Int),true,0) = some (QI a.2 r a.2.length,Q6 a.2 r a.2.length):=by
 have:=Ed (body:=BL a r) (out:=(QI a.2 r a.2.length,Q6 a.2 r a.2.length)) (fun k => (QI a.2 r k,Q6 a.2 r k,(k : Int))) a.2.length (fun k hk rec => by
  have hmem:=List.getElem_mem hk
  have hv:=ha.2 _ hmem
  have hin : a.2.contains a.2[k] = true:=by rw [List.contains_iff_mem]; exact hmem
  obtain ⟨p,hp,e1,e2⟩:=IG hin
  have hlen:=Nf a.2 r k
  have hkr : k < r.length:=by omega
  have hJ : ∀ b : Bool,Cp rec r (QI a.2 r k) (k : Int) a.2[k] b = rec (QI a.2 r (k + 1),b,((k + 1 : Nat) : Int)):=by
   intro b
   have ev : a.2[k] = ((a.2[k].toNat : Nat) : Int):=by omega
   rw [Cp,Aj hkr,AE,AO hk (by have:=ha.1; unfold maxLen; omega),QI,Gb hk,Gb hkr]
   have hg : AK (QI a.2 r k) a.2[k] = some ((QI a.2 r k)[a.2[k].toNat]'(by omega)):=by
    conv => lhs; rw [ev]
    exact Aj (by omega)
   rw [hg,AE]
   rfl
  rw [BL,Xb,Gb hk]
  rw [AF hk,Aj hk,cond_true,AE,KP (by have:=ha.1; unfold lim; omega),AE,e1,Aj (by omega : p < r.length),Aj hkr,AE,AE,hJ,hJ,Gb (by omega : p < r.length),Gb hkr]
  cases Q6 a.2 r k <;> rfl) (fun rec => by rw [BL]; rw [Az]; rfl) fz (Ii (by have:=ha.1; unfold lim; omega))
 exact this
theorem Yg {a : Atm} (ha : Oe a) {R : List (List Int)} {m : Int} (hR : ∀ r ∈ R,r.length = a.2.length) (hl : R.length <= 4000) : Al (BK a (avL a 5) ((m,R),true)) fz (([] : List (List Int)),0) = some (Nr a R):=by
 have:=Ed (body:=BK a (avL a 5) ((m,R),true)) (out:=Nr a R) (fun k => (((R.take k).filter fun r => Q6 a.2 r a.2.length).map (rowOf a),(k : Int))) R.length (fun k hk rec => by
  have hr:=hR _ (List.getElem_mem hk)
  have hb:=TM a R k
  have hpick : Q6 a.2 R[k] a.2.length = true -> IQ (QI a.2 R[k] a.2.length) (avL a 5) = some (rowOf a R[k]):=by
   intro hf
   have hl5:=Nq a 5
   rw [Xg (by unfold lim; omega) (fun c hc => by have:=(Kb.1 hc).1; rw [Nf]; omega)]
   unfold DD rowOf
   congr 1
   refine List.map_congr_left fun v hv => ?_
   have hm:=Kb.1 hv
   refine Vr ha.2 a.2.length (Nat.le_refl _) hf v hm.1.1 ?_
   have:=hm.2
   rw [List.contains_iff_mem] at this
   obtain ⟨i,hi,e⟩:=List.mem_iff_getElem.1 this
   exact ⟨i,hi,by rw [Gb hi]; exact e⟩
  rw [BK,S8 _ _ hk]
  rw [AF hk,Aj hk,cond_true,AE,Ak (by unfold lim; omega),aA ha hr,AE]
  simp only
  have hJ : ∀ y : List (List Int),Cq rec (k : Int) y = rec (y,((k + 1 : Nat) : Int)):=fun y => by rw [Cq,AO hk (by unfold maxLen; omega)]
  cases hf : Q6 a.2 R[k] a.2.length with
  | true => rw [cond_true,hpick hf,AE,Ak (by simp only [List.length_singleton]; unfold lim; omega),hJ]; rfl
  | false => rw [cond_false,cond_false,List.append_nil,hJ]) (fun rec => by rw [BK]; rw [Az,List.take_length]; rfl) fz (Ii (by unfold lim; omega))
 exact this
theorem SD {m : Int} {L : List (List Int)} (hm : btw m 0 5 = true) (hl : L.length <= 4000) (hr : ∀ r ∈ L,(r.length : Int) = m ∧ Lo r = true) : Fi (m,sortB L) = true:=by
 unfold Fi
 simp only [Bool.and_eq_true,Bool.not_eq_true',decide_eq_false_iff_not]
 refine ⟨hm,by have:=GC L; omega,GM fun i hi => ?_⟩
 have h1:=hr _ ((EX L _).1 (List.getElem_mem hi))
 unfold J2
 rw [h1.2,h1.1]
 simp only [bne_self_eq_false,Bool.not_true,Bool.false_or]
 by_cases h0 : 0 < i
 ·rw [decide_eq_true h0,Bool.true_and,AN (by omega : i - 1 < (sortB L).length)]
  have:=List.pairwise_iff_getElem.1 (Hw L) (i - 1) i (by omega) hi (by omega)
  exact decide_eq_false (by omega)
 ·rw [decide_eq_false h0,Bool.false_and]
theorem bJ {m : Int} {L : List (List Int)} (hm : btw m 0 5 = true) (hl : L.length <= 4000) (hr : ∀ r ∈ L,(r.length : Int) = m ∧ Lo r = true) : nrB m L = ((m,sortB L),true):=by
 unfold nrB
 have e : AU L (fun _ x => Kk m x) = false:=GM fun i hi => by
  have h1:=hr _ (List.getElem_mem hi)
  unfold Kk
  rw [h1.2,h1.1]; simp
 rw [e,SD hm hl hr]; rfl
theorem LK {r : Int × List (List Int)} (h : Fi r = true) : 0 <= r.1 ∧ r.1 <= 5 ∧ r.2.length <= 4000 ∧ ∀ x ∈ r.2,(x.length : Int) = r.1 ∧ Lo x = true:=by
 unfold Fi btw at h
 simp only [Bool.and_eq_true,decide_eq_true_eq,Bool.not_eq_true',decide_eq_false_iff_not] at h
 refine ⟨h.1.1,h.1.2,by omega,fun x hx => ?_⟩
 obtain ⟨i,hi,rfl⟩:=List.mem_iff_getElem.1 hx
 have:=GX h.2.2 hi
 unfold J2 at this
 simp only [Bool.or_eq_false_iff,Bool.not_eq_false'] at this
 exact ⟨by simpa using this.1.1,this.1.2⟩
theorem P2 {x : List Int} (h : Lo x = true) {k : Nat} (hk : k < x.length) : 0 <= x[k] ∧ x[k] <= 99:=by
 unfold Lo at h
 simp only [Bool.not_eq_true'] at h
 have:=GX h hk
 unfold btw at this
 simpa using this
theorem TK {x : List Int} (h : ∀ v ∈ x,0 <= v ∧ v <= 99) : Lo x = true:=by
 unfold Lo
 rw [GM fun i hi => by have:=h _ (List.getElem_mem hi); unfold btw; simp; omega]
 rfl
theorem Pq {d : List Tbl} {nm : List UInt8} (h : (BY d nm).2 = true) : Fi (BY d nm).1 = true ∧ (BY d nm).1.2.length <= 16:=by
 unfold BY at *
 split at h
 ·rename_i hd
  rw [if_pos hd]
  cases hf : d.find? (fun t => t.1 == nm) with
  | none => rw [hf] at h; cases h
  | some t =>
   simp only
   have hm:=List.mem_of_find?_eq_some hf
   unfold dbB at hd
   simp only [Bool.and_eq_true,Bool.not_eq_true'] at hd
   obtain ⟨i,hi,rfl⟩:=List.mem_iff_getElem.1 hm
   have:=GX hd.2 hi
   unfold Kw at this
   simp only [Bool.or_eq_false_iff,Bool.not_eq_false',decide_eq_false_iff_not] at this
   exact ⟨this.1.1.2,by have:=this.1.2; omega⟩
 ·cases h
def abB (d : List Tbl) (a : Atm) : Int × List (List Int):=(((avL a 5).length : Int),sortB (Nr a (BY d a.1).1.2))
theorem bX {a : Atm} {r : List Int} (ha : Oe a) (hr : r.length = a.2.length) (hv : Lo r = true) : ((rowOf a r).length : Int) = ((avL a 5).length : Int) ∧ Lo (rowOf a r) = true:=by
 refine ⟨by unfold rowOf; rw [List.length_map],TK fun v hvm => ?_⟩
 unfold rowOf at hvm
 obtain ⟨u,hu,rfl⟩:=List.mem_map.1 hvm
 obtain ⟨p,hp,e1,e2⟩:=IG (Kb.1 hu).2
 rw [e1,Gb (by omega : p < r.length)]
 exact P2 hv (by omega)
theorem Ni {d : List Tbl} {a : Atm} (ha : Oe a) (hf : Gc d a = true) : (∀ r ∈ (BY d a.1).1.2,r.length = a.2.length) ∧ (BY d a.1).1.2.length <= 16 ∧ ∀ r ∈ Nr a (BY d a.1).1.2,(r.length : Int) = ((avL a 5).length : Int) ∧ Lo r = true:=by
 unfold Gc at hf
 rw [Bool.and_eq_true] at hf
 have h1:=Pq hf.1
 have h2:=LK h1.1
 have h3 : (BY d a.1).1.1 = (a.2.length : Int):=by simpa using hf.2
 have h4 : ∀ r ∈ (BY d a.1).1.2,r.length = a.2.length:=fun r hr => by have:=(h2.2.2.2 r hr).1; omega
 refine ⟨h4,h1.2,fun r hr => ?_⟩
 unfold Nr at hr
 obtain ⟨x,hx,rfl⟩:=List.mem_map.1 hr
 have hx:=(List.mem_filter.1 hx).1
 exact bX ha (h4 x hx) (h2.2.2.2 x hx).2
theorem TN (a : Atm) (R : List (List Int)) : (Nr a R).length <= R.length:=by
 unfold Nr
 rw [List.length_map]
 exact List.length_filter_le _ _
theorem av5 (a : Atm) : btw ((avL a 5).length : Int) 0 5 = true:=by have:=Nq a 5; unfold btw; simp; omega
theorem X0 {d : List Tbl} {a : Atm} (ha : Oe a) (hf : Gc d a = true) : A9 (Nr a (BY d a.1).1.2):=by
 obtain ⟨h1,h2,h3⟩:=Ni ha hf
 have h4:=TN a (BY d a.1).1.2
 have h5:=Nq a 5
 exact ⟨by unfold lim; omega,fun r hr => by have:=(h3 r hr).1; unfold lim; omega⟩
theorem ak {n : Int} {l : List Int} (hn : 1 <= n ∧ n <= 5) (hl : l.length <= 5) (h : ∀ v ∈ l,0 <= v ∧ v < n) : C2 n l = some true:=by
 unfold C2
 rw [decide_eq_false (by omega),cond_false,Bm (n:=l.length) (fun k => atB l k fun v => cU n v) (by unfold lim; omega) (fun k hk rec => by
  rw [De]
  rw [AF hk,Aj hk,AO hk (by unfold maxLen; omega),AN hk,cond_true,AE,HZ,AE]; rfl) (fun rec => by rw [De]; rw [Az]; rfl),AE]
 have e : ((List.range l.length).any fun k => atB l k fun v => cU n v) = false:=GM (l:=l) (f:=fun _ v => cU n v) fun i hi => by
  have:=h _ (List.getElem_mem hi)
  unfold cU btw
  rw [wrap_in (by omega)]; simp; omega
 rw [e]; rfl
theorem iG {d : List Tbl} {a : Atm} (h : Iu d) (ha : Oe a) (hf : Gc d a = true) : E2 d a = some (abB d a):=by
 obtain ⟨h1,h2,h3⟩:=Ni ha hf
 have hf':=hf
 unfold Gc at hf'
 rw [Bool.and_eq_true] at hf'
 have hal : a.2.length <= lim:=by have:=ha.1; unfold lim; omega
 unfold E2 abB
 rw [gZ hal (fun v => hH hal v),AE,Sa h,AE,hf'.1,Bool.not_true,cond_false,show ((BY d a.1).1.1 != (a.2.length : Int)) = false by rw [bne,hf'.2]; rfl,cond_false,ak (by omega) ha.1 ha.2,AE,Bool.not_true,cond_false]
 have hb:=Yg ha (R:=(BY d a.1).1.2) (m:=(BY d a.1).1.1) h1 (by omega)
 have e : BY d a.1 = (((BY d a.1).1.1,(BY d a.1).1.2),true):=by rw [<- hf'.1]
 rw [<- e] at hb
 rw [hb,AE,Uj (X0 ha hf),AE]
theorem ZH {d : List Tbl} {a : Atm} (ha : Oe a) (hf : Gc d a = true) : Fi (abB d a) = true ∧ (abB d a).2.length <= 16:=by
 obtain ⟨h1,h2,h3⟩:=Ni ha hf
 have h4:=TN a (BY d a.1).1.2
 have h5:=GC (Nr a (BY d a.1).1.2)
 exact ⟨SD (av5 a) (by omega) h3,by unfold abB; simp only; omega⟩
theorem HT {d : List Tbl} {q : Qry} (h : J7 d q = true) : Oc q = true ∧ (∀ a ∈ q.2.1,Oe a ∧ Gc d a = true) ∧ q.2.1.length <= 4:=by
 unfold J7 at h
 simp only [Bool.and_eq_true,Bool.not_eq_true'] at h
 obtain ⟨h1,h2,h3⟩:=h
 obtain ⟨g1,g2,g3,g4⟩:=Hv h1
 refine ⟨h1,fun a ha => ⟨⟨(g4 a ha).2.1,fun v hv => ?_⟩,?_⟩,g3⟩
 ·have:=(g4 a ha).2.2 v hv; omega
 ·have:=HN h3 ha; simpa using this
end Go.Proofs.YtklcofndjkjldaaGreat
