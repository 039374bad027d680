/-
 The bindings of an atom: the reference and the program agree. On the printed functions; conditions: the atom fits its relation.
-/
import Derived.Test.YtlknpohjnpnodaaGreatNrSC1
import Derived.Test.YtlknpohjnpnodaaGreatTvSC1
namespace Go.Proofs.YtlknpohjnpnodaaGreat
open Go.RowKit
set_option linter.unusedVariables false
set_option linter.unusedSimpArgs false
theorem YL {l : List Int} {v : Int} {k : Nat} (h : NT l v = some k) : ∃ hk : k < l.length, l[k] = v := by
 unfold NT at h
 obtain ⟨j, hj, he⟩ := List.exists_of_findSome?_eq_some h
 have hj := List.mem_range.1 hj
 rw [AY hj] at he
 split at he
 ·rename_i hb
  injection he with he
  subst he
  exact ⟨hj, by simpa using hb⟩
 ·cases he
theorem KS {l : List Int} {v : Int} (h : l.contains v = true) : ∃ k : Nat, ∃ hk : k < l.length, EP l v = (k : Int) ∧ l[k] = v := by
 rw [<- Mu] at h
 obtain ⟨k, hk⟩ := Option.isSome_iff_exists.1 h
 obtain ⟨h1, h2⟩ := YL hk
 exact ⟨k, h1, by unfold EP; rw [hk], h2⟩
theorem j8 {a : Atm} (h : a.2.length <= lim) : DR a = some (avL a 5) := by
 unfold DR
 have := BJ (body := Cu a) (out := avL a 5) (fun k => (avL a k, (k : Int))) 5 (fun k hk rec => by
  have hl := JS a k
  unfold Cu DF
  simp only
  rw [decide_eq_true (by omega : (k : Int) < 5), fJ h, wrap_in (by omega), aK]
  simp only [cond_true, DK]
  cases a.2.contains (k : Int) with
  | true => rw [cond_true, Am (by unfold lim; simp; omega)]; rfl
  | false => rw [cond_false, cond_false, List.append_nil]; rfl) (fun rec => by unfold Cu; simp only; rfl) fz (by unfold fz; omega)
 rw [show ((([] : List Int), (0 : Int))) = (avL a 0, ((0 : Nat) : Int)) from rfl, this]
 rfl
theorem NJ {a : Atm} {v : Int} : v ∈ avL a 5 ↔ (0 <= v ∧ v < 5) ∧ a.2.contains v = true := by
 unfold avL
 rw [List.mem_map]
 constructor
 ·rintro ⟨n, hn, rfl⟩
  have h1 := List.mem_filter.1 hn
  have h2 := List.mem_range.1 h1.1
  exact ⟨by omega, h1.2⟩
 ·rintro ⟨h1, h2⟩
  exact ⟨v.toNat, List.mem_filter.2 ⟨List.mem_range.2 (by omega), by rw [show ((v.toNat : Nat) : Int) = v by omega]; exact h2⟩, by omega⟩
def Ll (a : Atm) : Prop := a.2.length <= 5 ∧ ∀ v ∈ a.2, 0 <= v ∧ v < 5
def Pv (V r : List Int) (k : Nat) : Bool := (List.range k).all fun i => atI r (EP V (atI V (i : Int))) == atI r (i : Int)
theorem Uo (V r : List Int) (k : Nat) : Pv V r (k + 1) = (Pv V r k && (atI r (EP V (atI V (k : Int))) == atI r (k : Int))) := by
 unfold Pv
 rw [List.range_succ, List.all_append]; simp
def rowOf (a : Atm) (r : List Int) : List Int := (avL a 5).map fun v => atI r (EP a.2 v)
theorem GM {l : List Int} {k : Nat} (h : k < l.length) : atI l (k : Int) = l[k] := by unfold atI; rw [Ak h]; rfl
theorem jG {a : Atm} {r : List Int} (ha : Ll a) (hr : r.length = a.2.length) {R : List (List Int)} {m : Int} {j : Nat} (hj : AA R (j : Int) = some r) : Ai (DZ a (avL a 5) ((m, R), true) (j : Int)) fz (([] : List Int), 0) = some (rowOf a r) := by
 have hl := JS a 5
 unfold rowOf
 exact Gj (a := avL a 5) (h := fun v => atI r (EP a.2 v)) (by unfold lim; omega) (fun k hk rec => by
  have hc := (NJ.1 (List.getElem_mem hk)).2
  obtain ⟨p, hp, e1, e2⟩ := KS hc
  rw [DZ]
  rw [AC hk, hj, Ak hk, AH hk (by unfold maxLen; omega), cond_true, DK, DK, O4 (by have := ha.1; unfold lim; omega), DK, e1, Ak (by omega : p < r.length), DK, Am (by simp only [List.length_map, List.length_take, List.length_singleton]; unfold lim; omega), GM (by omega : p < r.length)]) (fun rec y => by rw [DZ]; rw [Ay]; rfl)
theorem jE {a : Atm} {r : List Int} (ha : Ll a) (hr : r.length = a.2.length) {R : List (List Int)} {m : Int} {j : Nat} (hj : AA R (j : Int) = some r) : Ai (B6 a (avL a 5) ((m, R), true) (j : Int) (rowOf a r)) fz (true, 0) = some (Pv a.2 r a.2.length) := by
 have hl := JS a 5
 have := BJ (body := B6 a (avL a 5) ((m, R), true) (j : Int) (rowOf a r)) (out := Pv a.2 r a.2.length) (fun k => (Pv a.2 r k, (k : Int))) a.2.length (fun k hk rec => by
  have hmem := List.getElem_mem hk
  have hv := ha.2 _ hmem
  have hin : a.2.contains a.2[k] = true := by rw [List.contains_iff_mem]; exact hmem
  have hav : (avL a 5).contains a.2[k] = true := by rw [List.contains_iff_mem]; exact NJ.2 ⟨hv, hin⟩
  obtain ⟨p, hp, e1, e2⟩ := KS hav
  have hrow : AA (rowOf a r) (p : Int) = some (atI r (EP a.2 a.2[k])) := by
   rw [FI]
   unfold rowOf
   rw [List.getElem?_map, List.getElem?_eq_getElem hp, e2]; rfl
  have hJ : ∀ b : Bool, B7 rec (k : Int) b = rec (b, ((k + 1 : Nat) : Int)) := fun b => by rw [B7, AH hk (by have := ha.1; unfold maxLen; omega)]
  rw [B6, Uo, GM hk]
  rw [AC hk, Ak hk, cond_true, DK, O4 (by unfold lim; omega), DK, e1, decide_eq_true (by omega : (0 : Int) <= (p : Int)), cond_true, hrow, DK, hj, DK, Ak (by omega : k < r.length), DK, GM (by omega : k < r.length), hJ, hJ]
  cases Pv a.2 r k <;> rfl) (fun rec => by rw [B6]; rw [Ay]; rfl) fz (G0 (by have := ha.1; unfold lim; omega))
 exact this
theorem OW {α β : Type} (f : α -> Bool) (g : α -> β) {l : List α} {k : Nat} (hk : k < l.length) : ((l.take (k + 1)).filter f).map g = ((l.take k).filter f).map g ++ cond (f l[k]) [g l[k]] [] := by
 rw [XL f hk, List.map_append]
 cases f l[k] <;> rfl
def NK (a : Atm) (R : List (List Int)) : List (List Int) := (R.filter fun r => Pv a.2 r a.2.length).map (rowOf a)
theorem Qo (a : Atm) (R : List (List Int)) (k : Nat) : ((((R.take k).filter fun r => Pv a.2 r a.2.length).map (rowOf a))).length <= k := by
 rw [List.length_map]
 exact Nat.le_trans (List.length_filter_le _ _) (by simp; omega)
theorem ZS {a : Atm} (ha : Ll a) {R : List (List Int)} {m : Int} (hR : ∀ r ∈ R, r.length = a.2.length) (hl : R.length <= 4000) : Ai (B5 a (avL a 5) ((m, R), true)) fz (([] : List (List Int)), 0) = some (NK a R) := by
 have := BJ (body := B5 a (avL a 5) ((m, R), true)) (out := NK a R) (fun k => (((R.take k).filter fun r => Pv a.2 r a.2.length).map (rowOf a), (k : Int))) R.length (fun k hk rec => by
  have hr := hR _ (List.getElem_mem hk)
  have hb := Qo a R k
  have hJ : ∀ y : List (List Int), CR rec (k : Int) y = rec (y, ((k + 1 : Nat) : Int)) := fun y => by rw [CR, AH hk (by unfold maxLen; omega)]
  rw [B5, OW _ _ hk]
  rw [AC hk, cond_true, jG ha hr (Ak hk), DK, jE ha hr (Ak hk), DK, hJ, hJ]
  cases Pv a.2 R[k] a.2.length with
  | true => rw [cond_true, Am (by simp only [List.length_singleton]; unfold lim; omega)]; rfl
  | false => rw [cond_false, cond_false, List.append_nil]) (fun rec => by rw [B5]; rw [Ay, List.take_length]; rfl) fz (G0 (by unfold lim; omega))
 exact this
def Q6 (V r : List Int) : Nat -> List Int
 | 0 => List.replicate 5 0
 | k + 1 => (Q6 V r k).set (atI V (k : Int)).toNat (atI r (k : Int))
theorem NB (V r : List Int) : ∀ k, (Q6 V r k).length = 5
 | 0 => rfl
 | k + 1 => by rw [Q6, List.length_set]; exact NB V r k
theorem VZ {V r : List Int} (h5 : ∀ v ∈ V, 0 <= v ∧ v < 5) : ∀ k, k <= V.length -> Pv V r k = true -> ∀ v : Int, 0 <= v -> (∃ i, ∃ hi : i < k, atI V (i : Int) = v) -> atI (Q6 V r k) v = atI r (EP V v)
 | 0, _, _, v, _, ⟨i, hi, _⟩ => absurd hi (by omega)
 | k + 1, hk, hf, v, h0, ⟨i, hi, he⟩ => by
  rw [Uo, Bool.and_eq_true] at hf
  have hkl : k < V.length := by omega
  have hvk := h5 _ (List.getElem_mem hkl)
  have hlen := NB V r k
  by_cases hv : atI V (k : Int) = v
  ·have h2 : atI r (EP V (atI V (k : Int))) = atI r (k : Int) := by simpa using hf.2
   rw [hv] at h2
   rw [h2, Q6, hv]
   rw [GM hkl] at hv
   obtain ⟨w, rfl⟩ : ∃ w : Nat, v = (w : Int) := ⟨v.toNat, by omega⟩
   rw [Int.toNat_natCast, GM (by rw [List.length_set]; omega), List.getElem_set_self]
  ·have hik : i < k := by
    rcases Nat.lt_or_ge i k with h | h
    ·exact h
    ·exfalso; apply hv; rw [<- he]; congr 1; omega
   have ih := VZ h5 k (by omega) hf.1 v h0 ⟨i, hik, he⟩
   have hvi : v < 5 := by
    have hil : i < V.length := by omega
    rw [<- he, GM hil]; exact (h5 _ (List.getElem_mem hil)).2
   rw [<- ih, Q6]
   have e : v = ((v.toNat : Nat) : Int) := by omega
   have h1 : v.toNat < (Q6 V r k).length := by omega
   have h2 : v.toNat < ((Q6 V r k).set (atI V (k : Int)).toNat (atI r (k : Int))).length := by rw [List.length_set]; exact h1
   conv => lhs; rw [e]
   conv => rhs; rw [e]
   rw [GM h2, GM h1, List.getElem_set]
   rw [if_neg (fun e2 => by rw [GM hkl] at e2 hv; omega)]
theorem bF {a : Atm} {r : List Int} (ha : Ll a) (hr : r.length = a.2.length) : Ai (BZ a r) fz (List.replicate (Int.toNat 5) (0 : Int), true, 0) = some (Q6 a.2 r a.2.length, Pv a.2 r a.2.length) := by
 have := BJ (body := BZ a r) (out := (Q6 a.2 r a.2.length, Pv a.2 r a.2.length)) (fun k => (Q6 a.2 r k, Pv a.2 r k, (k : Int))) a.2.length (fun k hk rec => by
  have hmem := List.getElem_mem hk
  have hv := ha.2 _ hmem
  have hin : a.2.contains a.2[k] = true := by rw [List.contains_iff_mem]; exact hmem
  obtain ⟨p, hp, e1, e2⟩ := KS hin
  have hlen := NB a.2 r k
  have hkr : k < r.length := by omega
  have hJ : ∀ b : Bool, CL rec r (Q6 a.2 r k) (k : Int) a.2[k] b = rec (Q6 a.2 r (k + 1), b, ((k + 1 : Nat) : Int)) := by
   intro b
   have ev : a.2[k] = ((a.2[k].toNat : Nat) : Int) := by omega
   rw [CL, Ak hkr, DK, AH hk (by have := ha.1; unfold maxLen; omega), Q6, GM hk, GM hkr]
   have hg : AA (Q6 a.2 r k) a.2[k] = some ((Q6 a.2 r k)[a.2[k].toNat]'(by omega)) := by
    conv => lhs; rw [ev]
    exact Ak (by omega)
   rw [hg, DK]
   rfl
  rw [BZ, Uo, GM hk]
  rw [AC hk, Ak hk, cond_true, DK, UF (by have := ha.1; unfold lim; omega), DK, e1, Ak (by omega : p < r.length), Ak hkr, DK, DK, hJ, hJ, GM (by omega : p < r.length), GM hkr]
  cases Pv a.2 r k <;> rfl) (fun rec => by rw [BZ]; rw [Ay]; rfl) fz (G0 (by have := ha.1; unfold lim; omega))
 exact this
theorem YS {a : Atm} (ha : Ll a) {R : List (List Int)} {m : Int} (hR : ∀ r ∈ R, r.length = a.2.length) (hl : R.length <= 4000) : Ai (BY a (avL a 5) ((m, R), true)) fz (([] : List (List Int)), 0) = some (NK a R) := by
 have := BJ (body := BY a (avL a 5) ((m, R), true)) (out := NK a R) (fun k => (((R.take k).filter fun r => Pv a.2 r a.2.length).map (rowOf a), (k : Int))) R.length (fun k hk rec => by
  have hr := hR _ (List.getElem_mem hk)
  have hb := Qo a R k
  have hpick : Pv a.2 R[k] a.2.length = true -> IW (Q6 a.2 R[k] a.2.length) (avL a 5) = some (rowOf a R[k]) := by
   intro hf
   have hl5 := JS a 5
   rw [XT (by unfold lim; omega) (fun c hc => by have := (NJ.1 hc).1; rw [NB]; omega)]
   unfold MJ rowOf
   congr 1
   refine List.map_congr_left fun v hv => ?_
   have hm := NJ.1 hv
   refine VZ ha.2 a.2.length (Nat.le_refl _) hf v hm.1.1 ?_
   have := hm.2
   rw [List.contains_iff_mem] at this
   obtain ⟨i, hi, e⟩ := List.mem_iff_getElem.1 this
   exact ⟨i, hi, by rw [GM hi]; exact e⟩
  rw [BY, OW _ _ hk]
  rw [AC hk, Ak hk, cond_true, DK, Am (by unfold lim; omega), bF ha hr, DK]
  simp only
  have hJ : ∀ y : List (List Int), CM rec (k : Int) y = rec (y, ((k + 1 : Nat) : Int)) := fun y => by rw [CM, AH hk (by unfold maxLen; omega)]
  cases hf : Pv a.2 R[k] a.2.length with
  | true => rw [cond_true, hpick hf, DK, Am (by simp only [List.length_singleton]; unfold lim; omega), hJ]; rfl
  | false => rw [cond_false, cond_false, List.append_nil, hJ]) (fun rec => by rw [BY]; rw [Ay, List.take_length]; rfl) fz (G0 (by unfold lim; omega))
 exact this
theorem PV {m : Int} {L : List (List Int)} (hm : btw m 0 5 = true) (hl : L.length <= 4000) (hr : ∀ r ∈ L, (r.length : Int) = m ∧ MQ r = true) : G9 (m, sortB L) = true := by
 unfold G9
 simp only [Bool.and_eq_true, Bool.not_eq_true', decide_eq_false_iff_not]
 refine ⟨hm, by have := H2 L; omega, Ki fun i hi => ?_⟩
 have h1 := hr _ ((IK L _).1 (List.getElem_mem hi))
 unfold J9
 rw [h1.2, h1.1]
 simp only [bne_self_eq_false, Bool.not_true, Bool.false_or]
 by_cases h0 : 0 < i
 ·rw [decide_eq_true h0, Bool.true_and, AY (by omega : i - 1 < (sortB L).length)]
  have := List.pairwise_iff_getElem.1 (J1 L) (i - 1) i (by omega) hi (by omega)
  exact decide_eq_false (by omega)
 ·rw [decide_eq_false h0, Bool.false_and]
theorem Zw {m : Int} {L : List (List Int)} (hm : btw m 0 5 = true) (hl : L.length <= 4000) (hr : ∀ r ∈ L, (r.length : Int) = m ∧ MQ r = true) : nrB m L = ((m, sortB L), true) := by
 unfold nrB
 have e : AI L (fun _ x => Lu m x) = false := Ki fun i hi => by
  have h1 := hr _ (List.getElem_mem hi)
  unfold Lu
  rw [h1.2, h1.1]; simp
 rw [e, PV hm hl hr]; rfl
theorem KU {r : Int × List (List Int)} (h : G9 r = true) : 0 <= r.1 ∧ r.1 <= 5 ∧ r.2.length <= 4000 ∧ ∀ x ∈ r.2, (x.length : Int) = r.1 ∧ MQ x = true := by
 unfold G9 btw at h
 simp only [Bool.and_eq_true, decide_eq_true_eq, Bool.not_eq_true', decide_eq_false_iff_not] at h
 refine ⟨h.1.1, h.1.2, by omega, fun x hx => ?_⟩
 obtain ⟨i, hi, rfl⟩ := List.mem_iff_getElem.1 hx
 have := D6 h.2.2 hi
 unfold J9 at this
 simp only [Bool.or_eq_false_iff, Bool.not_eq_false'] at this
 exact ⟨by simpa using this.1.1, this.1.2⟩
theorem TX {x : List Int} (h : MQ x = true) {k : Nat} (hk : k < x.length) : 0 <= x[k] ∧ x[k] <= 99 := by
 unfold MQ at h
 simp only [Bool.not_eq_true'] at h
 have := D6 h hk
 unfold btw at this
 simpa using this
theorem Xw {x : List Int} (h : ∀ v ∈ x, 0 <= v ∧ v <= 99) : MQ x = true := by
 unfold MQ
 rw [Ki fun i hi => by have := h _ (List.getElem_mem hi); unfold btw; simp; omega]
 rfl
theorem WP {d : List Tbl} {nm : List UInt8} (h : (Cz d nm).2 = true) : G9 (Cz d nm).1 = true ∧ (Cz d nm).1.2.length <= 16 := by
 unfold Cz at *
 split at h
 ·rename_i hd
  rw [if_pos hd]
  cases hf : d.find? (fun t => t.1 == nm) with
  | none => rw [hf] at h; cases h
  | some t =>
   simp only
   have hm := List.mem_of_find?_eq_some hf
   unfold dbB at hd
   simp only [Bool.and_eq_true, Bool.not_eq_true'] at hd
   obtain ⟨i, hi, rfl⟩ := List.mem_iff_getElem.1 hm
   have := D6 hd.2 hi
   unfold KJ at this
   simp only [Bool.or_eq_false_iff, Bool.not_eq_false', decide_eq_false_iff_not] at this
   exact ⟨this.1.1.2, by have := this.1.2; omega⟩
 ·cases h
def abB (d : List Tbl) (a : Atm) : Int × List (List Int) := (((avL a 5).length : Int), sortB (NK a (Cz d a.1).1.2))
theorem d8 {a : Atm} {r : List Int} (ha : Ll a) (hr : r.length = a.2.length) (hv : MQ r = true) : ((rowOf a r).length : Int) = ((avL a 5).length : Int) ∧ MQ (rowOf a r) = true := by
 refine ⟨by unfold rowOf; rw [List.length_map], Xw fun v hvm => ?_⟩
 unfold rowOf at hvm
 obtain ⟨u, hu, rfl⟩ := List.mem_map.1 hvm
 obtain ⟨p, hp, e1, e2⟩ := KS (NJ.1 hu).2
 rw [e1, GM (by omega : p < r.length)]
 exact TX hv (by omega)
theorem Pa {d : List Tbl} {a : Atm} (ha : Ll a) (hf : Gp d a = true) : (∀ r ∈ (Cz d a.1).1.2, r.length = a.2.length) ∧ (Cz d a.1).1.2.length <= 16 ∧ ∀ r ∈ NK a (Cz d a.1).1.2, (r.length : Int) = ((avL a 5).length : Int) ∧ MQ r = true := by
 unfold Gp at hf
 rw [Bool.and_eq_true] at hf
 have h1 := WP hf.1
 have h2 := KU h1.1
 have h3 : (Cz d a.1).1.1 = (a.2.length : Int) := by simpa using hf.2
 have h4 : ∀ r ∈ (Cz d a.1).1.2, r.length = a.2.length := fun r hr => by have := (h2.2.2.2 r hr).1; omega
 refine ⟨h4, h1.2, fun r hr => ?_⟩
 unfold NK at hr
 obtain ⟨x, hx, rfl⟩ := List.mem_map.1 hr
 have hx := (List.mem_filter.1 hx).1
 exact d8 ha (h4 x hx) (h2.2.2.2 x hx).2
theorem Rj (a : Atm) (R : List (List Int)) : (NK a R).length <= R.length := by
 unfold NK
 rw [List.length_map]
 exact List.length_filter_le _ _
theorem av5 (a : Atm) : btw ((avL a 5).length : Int) 0 5 = true := by have := JS a 5; unfold btw; simp; omega
theorem TZ {d : List Tbl} {a : Atm} (ha : Ll a) (hf : Gp d a = true) : Bk (NK a (Cz d a.1).1.2) := by
 obtain ⟨h1, h2, h3⟩ := Pa ha hf
 have h4 := Rj a (Cz d a.1).1.2
 have h5 := JS a 5
 exact ⟨by unfold lim; omega, fun r hr => by have := (h3 r hr).1; unfold lim; omega⟩
theorem kV {d : List Tbl} {a : Atm} (h : Kb d) (ha : Ll a) (hf : Gp d a = true) : Fq d a = some (abB d a) := by
 obtain ⟨h1, h2, h3⟩ := Pa ha hf
 have h4 := Rj a (Cz d a.1).1.2
 have hf' := hf
 unfold Gp at hf'
 rw [Bool.and_eq_true] at hf'
 unfold Fq abB
 rw [j8 (by have := ha.1; unfold lim; omega), DK, QS h, DK, hf'.1, Bool.not_true, cond_false, show ((Cz d a.1).1.1 != (a.2.length : Int)) = false by rw [bne, hf'.2]; rfl, cond_false]
 have hb := ZS ha (R := (Cz d a.1).1.2) (m := (Cz d a.1).1.1) h1 (by omega)
 have e : Cz d a.1 = (((Cz d a.1).1.1, (Cz d a.1).1.2), true) := by rw [<- hf'.1]
 rw [<- e] at hb
 rw [hb, DK, eB (TZ ha hf), DK, Zw (av5 a) (by omega) h3]
 rfl
theorem XP {n : Int} {l : List Int} (hn : 1 <= n ∧ n <= 5) (hl : l.length <= 5) (h : ∀ v ∈ l, 0 <= v ∧ v < n) : DE n l = some true := by
 unfold DE
 rw [decide_eq_false (by omega), cond_false, Cx (n := l.length) (fun k => atB l k fun v => fC n v) (by unfold lim; omega) (fun k hk rec => by
  rw [CD]
  rw [AC hk, Ak hk, AH hk (by unfold maxLen; omega), AY hk, cond_true, DK, IH, DK]; rfl) (fun rec => by rw [CD]; rw [Ay]; rfl), DK]
 have e : ((List.range l.length).any fun k => atB l k fun v => fC n v) = false := Ki (l := l) (f := fun _ v => fC n v) fun i hi => by
  have := h _ (List.getElem_mem hi)
  unfold fC btw
  rw [wrap_in (by omega)]; simp; omega
 rw [e]; rfl
theorem kB {d : List Tbl} {a : Atm} (h : Kb d) (ha : Ll a) (hf : Gp d a = true) : Fl d a = some (abB d a) := by
 obtain ⟨h1, h2, h3⟩ := Pa ha hf
 have hf' := hf
 unfold Gp at hf'
 rw [Bool.and_eq_true] at hf'
 have hal : a.2.length <= lim := by have := ha.1; unfold lim; omega
 unfold Fl abB
 rw [jV hal (fun v => fA hal v), DK, Sh h, DK, hf'.1, Bool.not_true, cond_false, show ((Cz d a.1).1.1 != (a.2.length : Int)) = false by rw [bne, hf'.2]; rfl, cond_false, XP (by omega) ha.1 ha.2, DK, Bool.not_true, cond_false]
 have hb := YS ha (R := (Cz d a.1).1.2) (m := (Cz d a.1).1.1) h1 (by omega)
 have e : Cz d a.1 = (((Cz d a.1).1.1, (Cz d a.1).1.2), true) := by rw [<- hf'.1]
 rw [<- e] at hb
 rw [hb, DK, XU (TZ ha hf), DK]
theorem Xr {d : List Tbl} {a : Atm} (ha : Ll a) (hf : Gp d a = true) : G9 (abB d a) = true ∧ (abB d a).2.length <= 16 := by
 obtain ⟨h1, h2, h3⟩ := Pa ha hf
 have h4 := Rj a (Cz d a.1).1.2
 have h5 := H2 (NK a (Cz d a.1).1.2)
 exact ⟨PV (av5 a) (by omega) h3, by unfold abB; simp only; omega⟩
end Go.Proofs.YtlknpohjnpnodaaGreat
