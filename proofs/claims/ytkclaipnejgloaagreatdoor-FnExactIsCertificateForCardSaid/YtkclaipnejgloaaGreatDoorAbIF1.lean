/-
 The bindings of an atom: the reference and the program agree. On the printed functions; conditions: the atom fits its relation.
-/
import Derived.Test.YtkclaipnejgloaaGreatDoorNrIF1
import Derived.Test.YtkclaipnejgloaaGreatDoorTvIF1
namespace Go.Proofs.YtkclaipnejgloaaGreatDoor
open Go.RowKit
set_option linter.unusedVariables false
set_option linter.unusedSimpArgs false
theorem YX {l : List Int} {v : Int} {k : Nat} (h : NN l v = some k) : ∃ hk : k < l.length,l[k] = v:=by
 unfold NN at h
 obtain ⟨j,hj,he⟩:=List.exists_of_findSome?_eq_some h
 have hj:=List.mem_range.1 hj
 rw [AN hj] at he
 split at he
 ·rename_i hb
  injection he with he
  subst he
  exact ⟨hj,by simpa using hb⟩
 ·cases he
theorem KJ {l : List Int} {v : Int} (h : l.contains v = true) : ∃ k : Nat,∃ hk : k < l.length,EL l v = (k : Int) ∧ l[k] = v:=by
 rw [<- Mm] at h
 obtain ⟨k,hk⟩:=Option.isSome_iff_exists.1 h
 obtain ⟨h1,h2⟩:=YX hk
 exact ⟨k,h1,by unfold EL; rw [hk],h2⟩
theorem j5 {a : Atm} (h : a.2.length <= lim) : DL a = some (avL a 5):=by
 unfold DL
 have:=B8 (body:=Ck a) (out:=avL a 5) (fun k => (avL a k,(k : Int))) 5 (fun k hk rec => by
  have hl:=JL a k
  unfold Ck DG
  simp only
  rw [decide_eq_true (by omega : (k : Int) < 5),dG h,wrap_in (by omega),aJ]
  simp only [cond_true,AB]
  cases a.2.contains (k : Int) with
  | true => rw [cond_true,Ar (by unfold lim; simp; omega)]; rfl
  | false => rw [cond_false,cond_false,List.append_nil]; rfl) (fun rec => by unfold Ck; simp only; rfl) fz (by unfold fz; omega)
 rw [show ((([] : List Int),(0 : Int))) = (avL a 0,((0 : Nat) : Int)) from rfl,this]
 rfl
theorem Nx {a : Atm} {v : Int} : v ∈ avL a 5 ↔ (0 <= v ∧ v < 5) ∧ a.2.contains v = true:=by
 unfold avL
 rw [List.mem_map]
 constructor
 ·rintro ⟨n,hn,rfl⟩
  have h1:=List.mem_filter.1 hn
  have h2:=List.mem_range.1 h1.1
  exact ⟨by omega,h1.2⟩
 ·rintro ⟨h1,h2⟩
  exact ⟨v.toNat,List.mem_filter.2 ⟨List.mem_range.2 (by omega),by rw [show ((v.toNat : Nat) : Int) = v by omega]; exact h2⟩,by omega⟩
def KO (a : Atm) : Prop:=a.2.length <= 5 ∧ ∀ v ∈ a.2,0 <= v ∧ v < 5
def PK (V r : List Int) (k : Nat) : Bool:=(List.range k).all fun i => atI r (EL V (atI V (i : Int))) == atI r (i : Int)
theorem Uw (V r : List Int) (k : Nat) : PK V r (k + 1) = (PK V r k && (atI r (EL V (atI V (k : Int))) == atI r (k : Int))):=by
 unfold PK
 rw [List.range_succ,List.all_append]; simp
def rowOf (a : Atm) (r : List Int) : List Int:=(avL a 5).map fun v => atI r (EL a.2 v)
theorem Gx {l : List Int} {k : Nat} (h : k < l.length) : atI l (k : Int) = l[k]:=by unfold atI; rw [Ai h]; rfl
theorem jH {a : Atm} {r : List Int} (ha : KO a) (hr : r.length = a.2.length) {R : List (List Int)} {m : Int} {j : Nat} (hj : AA R (j : Int) = some r) : Ah (DV a (avL a 5) ((m,R),true) (j : Int)) fz (([] : List Int),0) = some (rowOf a r):=by
 have hl:=JL a 5
 unfold rowOf
 exact G8 (a:=avL a 5) (h:=fun v => atI r (EL a.2 v)) (by unfold lim; omega) (fun k hk rec => by
  have hc:=(Nx.1 (List.getElem_mem hk)).2
  obtain ⟨p,hp,e1,e2⟩:=KJ hc
  rw [DV]
  rw [Az hk,hj,Ai hk,AF hk (by unfold maxLen; omega),cond_true,AB,AB,Pj (by have:=ha.1; unfold lim; omega),AB,e1,Ai (by omega : p < r.length),AB,Ar (by simp only [List.length_map,List.length_take,List.length_singleton]; unfold lim; omega),Gx (by omega : p < r.length)]) (fun rec y => by rw [DV]; rw [Ax]; rfl)
theorem jE {a : Atm} {r : List Int} (ha : KO a) (hr : r.length = a.2.length) {R : List (List Int)} {m : Int} {j : Nat} (hj : AA R (j : Int) = some r) : Ah (BU a (avL a 5) ((m,R),true) (j : Int) (rowOf a r)) fz (true,0) = some (PK a.2 r a.2.length):=by
 have hl:=JL a 5
 have:=B8 (body:=BU a (avL a 5) ((m,R),true) (j : Int) (rowOf a r)) (out:=PK a.2 r a.2.length) (fun k => (PK a.2 r k,(k : Int))) a.2.length (fun k hk rec => by
  have hmem:=List.getElem_mem hk
  have hv:=ha.2 _ hmem
  have hin : a.2.contains a.2[k] = true:=by rw [List.contains_iff_mem]; exact hmem
  have hav : (avL a 5).contains a.2[k] = true:=by rw [List.contains_iff_mem]; exact Nx.2 ⟨hv,hin⟩
  obtain ⟨p,hp,e1,e2⟩:=KJ hav
  have hrow : AA (rowOf a r) (p : Int) = some (atI r (EL a.2 a.2[k])):=by
   rw [F0]
   unfold rowOf
   rw [List.getElem?_map,List.getElem?_eq_getElem hp,e2]; rfl
  have hJ : ∀ b : Bool,BV rec (k : Int) b = rec (b,((k + 1 : Nat) : Int)):=fun b => by rw [BV,AF hk (by have:=ha.1; unfold maxLen; omega)]
  rw [BU,Uw,Gx hk]
  rw [Az hk,Ai hk,cond_true,AB,Pj (by unfold lim; omega),AB,e1,decide_eq_true (by omega : (0 : Int) <= (p : Int)),cond_true,hrow,AB,hj,AB,Ai (by omega : k < r.length),AB,Gx (by omega : k < r.length),hJ,hJ]
  cases PK a.2 r k <;> rfl) (fun rec => by rw [BU]; rw [Ax]; rfl) fz (FZ (by have:=ha.1; unfold lim; omega))
 exact this
theorem Pa {α β : Type} (f : α -> Bool) (g : α -> β) {l : List α} {k : Nat} (hk : k < l.length) : ((l.take (k + 1)).filter f).map g = ((l.take k).filter f).map g ++ cond (f l[k]) [g l[k]] []:=by
 rw [XQ f hk,List.map_append]
 cases f l[k] <;> rfl
def Ny (a : Atm) (R : List (List Int)) : List (List Int):=(R.filter fun r => PK a.2 r a.2.length).map (rowOf a)
theorem Qv (a : Atm) (R : List (List Int)) (k : Nat) : ((((R.take k).filter fun r => PK a.2 r a.2.length).map (rowOf a))).length <= k:=by
 rw [List.length_map]
 exact Nat.le_trans (List.length_filter_le _ _) (by simp; omega)
theorem ZU {a : Atm} (ha : KO a) {R : List (List Int)} {m : Int} (hR : ∀ r ∈ R,r.length = a.2.length) (hl : R.length <= 4000) : Ah (BT a (avL a 5) ((m,R),true)) fz (([] : List (List Int)),0) = some (Ny a R):=by
 have:=B8 (body:=BT a (avL a 5) ((m,R),true)) (out:=Ny a R) (fun k => (((R.take k).filter fun r => PK a.2 r a.2.length).map (rowOf a),(k : Int))) R.length (fun k hk rec => by
  have hr:=hR _ (List.getElem_mem hk)
  have hb:=Qv a R k
  have hJ : ∀ y : List (List Int),CN rec (k : Int) y = rec (y,((k + 1 : Nat) : Int)):=fun y => by rw [CN,AF hk (by unfold maxLen; omega)]
  rw [BT,Pa _ _ hk]
  rw [Az hk,cond_true,jH ha hr (Ai hk),AB,jE ha hr (Ai hk),AB,hJ,hJ]
  cases PK a.2 R[k] a.2.length with
  | true => rw [cond_true,Ar (by simp only [List.length_singleton]; unfold lim; omega)]; rfl
  | false => rw [cond_false,cond_false,List.append_nil]) (fun rec => by rw [BT]; rw [Ax,List.take_length]; rfl) fz (FZ (by unfold lim; omega))
 exact this
def Rh (V r : List Int) : Nat -> List Int
 | 0 => List.replicate 5 0
 | k + 1 => (Rh V r k).set (atI V (k : Int)).toNat (atI r (k : Int))
theorem Nr (V r : List Int) : ∀ k,(Rh V r k).length = 5
 | 0 => rfl
 | k + 1 => by rw [Rh,List.length_set]; exact Nr V r k
theorem Wa {V r : List Int} (h5 : ∀ v ∈ V,0 <= v ∧ v < 5) : ∀ k,k <= V.length -> PK V r k = true -> ∀ v : Int,0 <= v -> (∃ i,∃ hi : i < k,atI V (i : Int) = v) -> atI (Rh V r k) v = atI r (EL V v)
 | 0,_,_,v,_,⟨i,hi,_⟩ => absurd hi (by omega)
 | k + 1,hk,hf,v,h0,⟨i,hi,he⟩ => by
  rw [Uw,Bool.and_eq_true] at hf
  have hkl : k < V.length:=by omega
  have hvk:=h5 _ (List.getElem_mem hkl)
  have hlen:=Nr V r k
  by_cases hv : atI V (k : Int) = v
  ·have h2 : atI r (EL V (atI V (k : Int))) = atI r (k : Int):=by simpa using hf.2
   rw [hv] at h2
   rw [h2,Rh,hv]
   rw [Gx hkl] at hv
   obtain ⟨w,rfl⟩ : ∃ w : Nat,v = (w : Int):=⟨v.toNat,by omega⟩
   rw [Int.toNat_natCast,Gx (by rw [List.length_set]; omega),List.getElem_set_self]
  ·have hik : i < k:=by
    rcases Nat.lt_or_ge i k with h | h
    ·exact h
    ·exfalso; apply hv; rw [<- he]; congr 1; omega
   have ih:=Wa h5 k (by omega) hf.1 v h0 ⟨i,hik,he⟩
   have hvi : v < 5:=by
    have hil : i < V.length:=by omega
    rw [<- he,Gx hil]; exact (h5 _ (List.getElem_mem hil)).2
   rw [<- ih,Rh]
   have e : v = ((v.toNat : Nat) : Int):=by omega
   have h1 : v.toNat < (Rh V r k).length:=by omega
   have h2 : v.toNat < ((Rh V r k).set (atI V (k : Int)).toNat (atI r (k : Int))).length:=by rw [List.length_set]; exact h1
   conv => lhs; rw [e]
   conv => rhs; rw [e]
   rw [Gx h2,Gx h1,List.getElem_set]
   rw [if_neg (fun e2 => by rw [Gx hkl] at e2 hv; omega)]
theorem bt {a : Atm} {r : List Int} (ha : KO a) (hr : r.length = a.2.length) : Ah (BP a r) fz (List.replicate (Int.toNat 5) (0 : Int),true,0) = some (Rh a.2 r a.2.length,PK a.2 r a.2.length):=by
 have:=B8 (body:=BP a r) (out:=(Rh a.2 r a.2.length,PK a.2 r a.2.length)) (fun k => (Rh a.2 r k,PK a.2 r k,(k : Int))) a.2.length (fun k hk rec => by
  have hmem:=List.getElem_mem hk
  have hv:=ha.2 _ hmem
  have hin : a.2.contains a.2[k] = true:=by rw [List.contains_iff_mem]; exact hmem
  obtain ⟨p,hp,e1,e2⟩:=KJ hin
  have hlen:=Nr a.2 r k
  have hkr : k < r.length:=by omega
  have hJ : ∀ b : Bool,CF rec r (Rh a.2 r k) (k : Int) a.2[k] b = rec (Rh a.2 r (k + 1),b,((k + 1 : Nat) : Int)):=by
   intro b
   have ev : a.2[k] = ((a.2[k].toNat : Nat) : Int):=by omega
   rw [CF,Ai hkr,AB,AF hk (by have:=ha.1; unfold maxLen; omega),Rh,Gx hk,Gx hkr]
   have hg : AA (Rh a.2 r k) a.2[k] = some ((Rh a.2 r k)[a.2[k].toNat]'(by omega)):=by
    conv => lhs; rw [ev]
    exact Ai (by omega)
   rw [hg,AB]
   rfl
  rw [BP,Uw,Gx hk]
  rw [Az hk,Ai hk,cond_true,AB,UP (by have:=ha.1; unfold lim; omega),AB,e1,Ai (by omega : p < r.length),Ai hkr,AB,AB,hJ,hJ,Gx (by omega : p < r.length),Gx hkr]
  cases PK a.2 r k <;> rfl) (fun rec => by rw [BP]; rw [Ax]; rfl) fz (FZ (by have:=ha.1; unfold lim; omega))
 exact this
theorem Y1 {a : Atm} (ha : KO a) {R : List (List Int)} {m : Int} (hR : ∀ r ∈ R,r.length = a.2.length) (hl : R.length <= 4000) : Ah (BO a (avL a 5) ((m,R),true)) fz (([] : List (List Int)),0) = some (Ny a R):=by
 have:=B8 (body:=BO a (avL a 5) ((m,R),true)) (out:=Ny a R) (fun k => (((R.take k).filter fun r => PK a.2 r a.2.length).map (rowOf a),(k : Int))) R.length (fun k hk rec => by
  have hr:=hR _ (List.getElem_mem hk)
  have hb:=Qv a R k
  have hpick : PK a.2 R[k] a.2.length = true -> IJ (Rh a.2 R[k] a.2.length) (avL a 5) = some (rowOf a R[k]):=by
   intro hf
   have hl5:=JL a 5
   rw [XX (by unfold lim; omega) (fun c hc => by have:=(Nx.1 hc).1; rw [Nr]; omega)]
   unfold MG rowOf
   congr 1
   refine List.map_congr_left fun v hv => ?_
   have hm:=Nx.1 hv
   refine Wa ha.2 a.2.length (Nat.le_refl _) hf v hm.1.1 ?_
   have:=hm.2
   rw [List.contains_iff_mem] at this
   obtain ⟨i,hi,e⟩:=List.mem_iff_getElem.1 this
   exact ⟨i,hi,by rw [Gx hi]; exact e⟩
  rw [BO,Pa _ _ hk]
  rw [Az hk,Ai hk,cond_true,AB,Ar (by unfold lim; omega),bt ha hr,AB]
  simp only
  have hJ : ∀ y : List (List Int),CG rec (k : Int) y = rec (y,((k + 1 : Nat) : Int)):=fun y => by rw [CG,AF hk (by unfold maxLen; omega)]
  cases hf : PK a.2 R[k] a.2.length with
  | true => rw [cond_true,hpick hf,AB,Ar (by simp only [List.length_singleton]; unfold lim; omega),hJ]; rfl
  | false => rw [cond_false,cond_false,List.append_nil,hJ]) (fun rec => by rw [BO]; rw [Ax,List.take_length]; rfl) fz (FZ (by unfold lim; omega))
 exact this
theorem P7 {m : Int} {L : List (List Int)} (hm : btw m 0 5 = true) (hl : L.length <= 4000) (hr : ∀ r ∈ L,(r.length : Int) = m ∧ MV r = true) : M5 (m,sortB L) = true:=by
 unfold M5
 simp only [Bool.and_eq_true,Bool.not_eq_true',decide_eq_false_iff_not]
 refine ⟨hm,by have:=Iv L; omega,Jq fun i hi => ?_⟩
 have h1:=hr _ ((Jf L _).1 (List.getElem_mem hi))
 unfold J9
 rw [h1.2,h1.1]
 simp only [bne_self_eq_false,Bool.not_true,Bool.false_or]
 by_cases h0 : 0 < i
 ·rw [decide_eq_true h0,Bool.true_and,AN (by omega : i - 1 < (sortB L).length)]
  have:=List.pairwise_iff_getElem.1 (JZ L) (i - 1) i (by omega) hi (by omega)
  exact decide_eq_false (by omega)
 ·rw [decide_eq_false h0,Bool.false_and]
theorem ZA {m : Int} {L : List (List Int)} (hm : btw m 0 5 = true) (hl : L.length <= 4000) (hr : ∀ r ∈ L,(r.length : Int) = m ∧ MV r = true) : nrB m L = ((m,sortB L),true):=by
 unfold nrB
 have e : Ay L (fun _ x => N7 m x) = false:=Jq fun i hi => by
  have h1:=hr _ (List.getElem_mem hi)
  unfold N7
  rw [h1.2,h1.1]; simp
 rw [e,P7 hm hl hr]; rfl
theorem KK {r : Int × List (List Int)} (h : M5 r = true) : 0 <= r.1 ∧ r.1 <= 5 ∧ r.2.length <= 4000 ∧ ∀ x ∈ r.2,(x.length : Int) = r.1 ∧ MV x = true:=by
 unfold M5 btw at h
 simp only [Bool.and_eq_true,decide_eq_true_eq,Bool.not_eq_true',decide_eq_false_iff_not] at h
 refine ⟨h.1.1,h.1.2,by omega,fun x hx => ?_⟩
 obtain ⟨i,hi,rfl⟩:=List.mem_iff_getElem.1 hx
 have:=FE h.2.2 hi
 unfold J9 at this
 simp only [Bool.or_eq_false_iff,Bool.not_eq_false'] at this
 exact ⟨by simpa using this.1.1,this.1.2⟩
theorem T7 {x : List Int} (h : MV x = true) {k : Nat} (hk : k < x.length) : 0 <= x[k] ∧ x[k] <= 99:=by
 unfold MV at h
 simp only [Bool.not_eq_true'] at h
 have:=FE h hk
 unfold btw at this
 simpa using this
theorem XE {x : List Int} (h : ∀ v ∈ x,0 <= v ∧ v <= 99) : MV x = true:=by
 unfold MV
 rw [Jq fun i hi => by have:=h _ (List.getElem_mem hi); unfold btw; simp; omega]
 rfl
theorem WR {d : List Tbl} {nm : List UInt8} (h : (Gr d nm).2 = true) : M5 (Gr d nm).1 = true ∧ (Gr d nm).1.2.length <= 16:=by
 unfold Gr at *
 split at h
 ·rename_i hd
  rw [if_pos hd]
  cases hf : d.find? (fun t => t.1 == nm) with
  | none => rw [hf] at h; cases h
  | some t =>
   simp only
   have hm:=List.mem_of_find?_eq_some hf
   unfold dbB at hd
   simp only [Bool.and_eq_true,Bool.not_eq_true'] at hd
   obtain ⟨i,hi,rfl⟩:=List.mem_iff_getElem.1 hm
   have:=FE hd.2 hi
   unfold MR at this
   simp only [Bool.or_eq_false_iff,Bool.not_eq_false',decide_eq_false_iff_not] at this
   exact ⟨this.1.1.2,by have:=this.1.2; omega⟩
 ·cases h
def abB (d : List Tbl) (a : Atm) : Int × List (List Int):=(((avL a 5).length : Int),sortB (Ny a (Gr d a.1).1.2))
theorem dB {a : Atm} {r : List Int} (ha : KO a) (hr : r.length = a.2.length) (hv : MV r = true) : ((rowOf a r).length : Int) = ((avL a 5).length : Int) ∧ MV (rowOf a r) = true:=by
 refine ⟨by unfold rowOf; rw [List.length_map],XE fun v hvm => ?_⟩
 unfold rowOf at hvm
 obtain ⟨u,hu,rfl⟩:=List.mem_map.1 hvm
 obtain ⟨p,hp,e1,e2⟩:=KJ (Nx.1 hu).2
 rw [e1,Gx (by omega : p < r.length)]
 exact T7 hv (by omega)
theorem Pq {d : List Tbl} {a : Atm} (ha : KO a) (hf : FY d a = true) : (∀ r ∈ (Gr d a.1).1.2,r.length = a.2.length) ∧ (Gr d a.1).1.2.length <= 16 ∧ ∀ r ∈ Ny a (Gr d a.1).1.2,(r.length : Int) = ((avL a 5).length : Int) ∧ MV r = true:=by
 unfold FY at hf
 rw [Bool.and_eq_true] at hf
 have h1:=WR hf.1
 have h2:=KK h1.1
 have h3 : (Gr d a.1).1.1 = (a.2.length : Int):=by simpa using hf.2
 have h4 : ∀ r ∈ (Gr d a.1).1.2,r.length = a.2.length:=fun r hr => by have:=(h2.2.2.2 r hr).1; omega
 refine ⟨h4,h1.2,fun r hr => ?_⟩
 unfold Ny at hr
 obtain ⟨x,hx,rfl⟩:=List.mem_map.1 hr
 have hx:=(List.mem_filter.1 hx).1
 exact dB ha (h4 x hx) (h2.2.2.2 x hx).2
theorem Rx (a : Atm) (R : List (List Int)) : (Ny a R).length <= R.length:=by
 unfold Ny
 rw [List.length_map]
 exact List.length_filter_le _ _
theorem av5 (a : Atm) : btw ((avL a 5).length : Int) 0 5 = true:=by have:=JL a 5; unfold btw; simp; omega
theorem Ua {d : List Tbl} {a : Atm} (ha : KO a) (hf : FY d a = true) : Hi (Ny a (Gr d a.1).1.2):=by
 obtain ⟨h1,h2,h3⟩:=Pq ha hf
 have h4:=Rx a (Gr d a.1).1.2
 have h5:=JL a 5
 exact ⟨by unfold lim; omega,fun r hr => by have:=(h3 r hr).1; unfold lim; omega⟩
theorem j4 {d : List Tbl} {a : Atm} (h : Q7 d) (ha : KO a) (hf : FY d a = true) : Ek d a = some (abB d a):=by
 obtain ⟨h1,h2,h3⟩:=Pq ha hf
 have h4:=Rx a (Gr d a.1).1.2
 have hf':=hf
 unfold FY at hf'
 rw [Bool.and_eq_true] at hf'
 unfold Ek abB
 rw [j5 (by have:=ha.1; unfold lim; omega),AB,Yo h,AB,hf'.1,Bool.not_true,cond_false,show ((Gr d a.1).1.1 != (a.2.length : Int)) = false by rw [bne,hf'.2]; rfl,cond_false]
 have hb:=ZU ha (R:=(Gr d a.1).1.2) (m:=(Gr d a.1).1.1) h1 (by omega)
 have e : Gr d a.1 = (((Gr d a.1).1.1,(Gr d a.1).1.2),true):=by rw [<- hf'.1]
 rw [<- e] at hb
 rw [hb,AB,jF (Ua ha hf),AB,ZA (av5 a) (by omega) h3]
 rfl
theorem XU {n : Int} {l : List Int} (hn : 1 <= n ∧ n <= 5) (hl : l.length <= 5) (h : ∀ v ∈ l,0 <= v ∧ v < n) : DE n l = some true:=by
 unfold DE
 rw [decide_eq_false (by omega),cond_false,Bh (n:=l.length) (fun k => atB l k fun v => eR n v) (by unfold lim; omega) (fun k hk rec => by
  rw [Cx]
  rw [Az hk,Ai hk,AF hk (by unfold maxLen; omega),AN hk,cond_true,AB,Fb,AB]; rfl) (fun rec => by rw [Cx]; rw [Ax]; rfl),AB]
 have e : ((List.range l.length).any fun k => atB l k fun v => eR n v) = false:=Jq (l:=l) (f:=fun _ v => eR n v) fun i hi => by
  have:=h _ (List.getElem_mem hi)
  unfold eR btw
  rw [wrap_in (by omega)]; simp; omega
 rw [e]; rfl
theorem jW {d : List Tbl} {a : Atm} (h : Q7 d) (ha : KO a) (hf : FY d a = true) : Eb d a = some (abB d a):=by
 obtain ⟨h1,h2,h3⟩:=Pq ha hf
 have hf':=hf
 unfold FY at hf'
 rw [Bool.and_eq_true] at hf'
 have hal : a.2.length <= lim:=by have:=ha.1; unfold lim; omega
 unfold Eb abB
 rw [jX hal (fun v => be hal v),AB,XV h,AB,hf'.1,Bool.not_true,cond_false,show ((Gr d a.1).1.1 != (a.2.length : Int)) = false by rw [bne,hf'.2]; rfl,cond_false,XU (by omega) ha.1 ha.2,AB,Bool.not_true,cond_false]
 have hb:=Y1 ha (R:=(Gr d a.1).1.2) (m:=(Gr d a.1).1.1) h1 (by omega)
 have e : Gr d a.1 = (((Gr d a.1).1.1,(Gr d a.1).1.2),true):=by rw [<- hf'.1]
 rw [<- e] at hb
 rw [hb,AB,XZ (Ua ha hf),AB]
theorem XB {d : List Tbl} {a : Atm} (ha : KO a) (hf : FY d a = true) : M5 (abB d a) = true ∧ (abB d a).2.length <= 16:=by
 obtain ⟨h1,h2,h3⟩:=Pq ha hf
 have h4:=Rx a (Gr d a.1).1.2
 have h5:=Iv (Ny a (Gr d a.1).1.2)
 exact ⟨P7 (av5 a) (by omega) h3,by unfold abB; simp only; omega⟩
theorem MH {d : List Tbl} {q : Qry} (h : Ik d q = true) : Ki q = true ∧ (∀ a ∈ q.2.1,KO a ∧ FY d a = true) ∧ q.2.1.length <= 4:=by
 unfold Ik at h
 simp only [Bool.and_eq_true,Bool.not_eq_true'] at h
 obtain ⟨h1,h2,h3⟩:=h
 obtain ⟨g1,g2,g3,g4⟩:=Q1 h1
 refine ⟨h1,fun a ha => ⟨⟨(g4 a ha).2.1,fun v hv => ?_⟩,?_⟩,g3⟩
 ·have:=(g4 a ha).2.2 v hv; omega
 ·have:=Ix h3 ha; simpa using this
end Go.Proofs.YtkclaipnejgloaaGreatDoor
