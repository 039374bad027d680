/-
 Tries of a query's atoms, and their children: the reference and the program agree. On the printed functions; conditions: the query fits.
-/
import Derived.Test.YtlknpohjnpnodaaGreatAbSC1
namespace Go.Proofs.YtlknpohjnpnodaaGreat
open Go.RowKit
set_option linter.unusedVariables false
set_option linter.unusedSimpArgs false
theorem Sy : ∀ {l m : List Int}, l.Nodup -> (∀ x ∈ l, x ∈ m) -> l.length <= m.length
 | [], m, _, _ => by simp
 | x :: l, m, hn, h => by
  have hx := h x (by simp)
  rw [List.nodup_cons] at hn
  have h1 := Sy (l := l) (m := m.erase x) hn.2 (fun y hy => by
   have hne : y ≠ x := fun e => by subst e; exact hn.1 hy
   exact (List.mem_erase_of_ne hne).2 (h y (by simp [hy])))
  have h2 := List.length_erase_of_mem hx
  have h3 : 0 < m.length := List.length_pos_of_mem hx
  rw [List.length_cons]; omega
theorem eK {n : Int} (hn : 1 <= n ∧ n <= 5) {l : List Int} (h : AI l (F0 n l) = false) : l.Nodup ∧ ∀ e ∈ l, 0 <= e ∧ e < n := by
 have hw : IntKind.i64.wrap (n - 1) = n - 1 := wrap_in (by omega)
 constructor
 ·rw [List.nodup_iff_pairwise_ne, List.pairwise_iff_getElem]
  intro i j hi hj hij he
  have h1 := D6 h hj
  unfold F0 at h1
  simp only [Bool.or_eq_false_iff] at h1
  have h2 := h1.2
  have h3 : (l.take j).contains l[j] = true := by
   rw [List.contains_iff_mem, List.mem_iff_getElem]
   exact ⟨i, by rw [List.length_take]; omega, by rw [List.getElem_take]; exact he⟩
  rw [h3] at h2; cases h2
 ·intro e he
  obtain ⟨k, hk, rfl⟩ := List.mem_iff_getElem.1 he
  have := D6 h hk
  unfold F0 btw at this
  simp only [Bool.or_eq_false_iff, Bool.not_eq_false', Bool.and_eq_true, decide_eq_true_eq, hw] at this
  omega
theorem Yh {m : Int} (hm : 0 <= m ∧ m <= 5) {l : List Int} (h1 : l.Nodup) (h2 : ∀ e ∈ l, 0 <= e ∧ e < m) : AI l (F0 m l) = false := Ki fun i hi => by
 have h3 := h2 _ (List.getElem_mem hi)
 unfold F0 btw
 rw [wrap_in (by omega), Bool.or_eq_false_iff]
 refine ⟨by simp; omega, ?_⟩
 rw [<- Bool.not_eq_true, List.contains_iff_mem]
 intro hm
 obtain ⟨j, hj, he⟩ := List.mem_iff_getElem.1 hm
 rw [List.length_take] at hj
 rw [List.getElem_take] at he
 rw [List.nodup_iff_pairwise_ne, List.pairwise_iff_getElem] at h1
 exact h1 j i (by omega) hi (by omega) he
theorem Wd (a : Atm) : (avL a 5).Nodup := by
 unfold avL
 rw [List.nodup_iff_pairwise_ne, List.pairwise_map]
 have h : ((List.range 5).filter fun (v : Nat) => a.2.contains (v : Int)).Nodup := List.Nodup.sublist List.filter_sublist List.nodup_range
 rw [List.nodup_iff_pairwise_ne] at h
 exact h.imp fun h e => h (by omega)
theorem HJ {q : Qry} {o : List Int} (h : OF q o = true) : (o.length : Int) = q.1 ∧ o.Nodup ∧ (∀ v ∈ o, 0 <= v ∧ v < q.1) ∧ ∀ v : Int, 0 <= v -> v < q.1 -> v ∈ o := by
 unfold OF at h
 simp only [Bool.and_eq_true, Bool.not_eq_true', beq_iff_eq] at h
 have hn := MK h.1
 have h2 := eK hn h.2.2
 refine ⟨h.2.1, h2.1, h2.2, fun v h0 h1 => ?_⟩
 apply Classical.byContradiction
 intro hno
 have := few q.1.toNat (v :: o) (List.nodup_cons.2 ⟨hno, h2.1⟩) (fun e he => by
  rcases List.mem_cons.1 he with rfl | he
  ·omega
  ·have := h2.2 e he; omega)
 rw [List.length_cons] at this
 have := h.2.1
 omega
def KZ (V o : List Int) : Nat -> List Int
 | 0 => []
 | k + 1 => KZ V o k ++ cond (decide (0 <= EP V (atI o (k : Int))) && !(KZ V o k).contains (EP V (atI o (k : Int)))) [EP V (atI o (k : Int))] []
theorem Pj (V o : List Int) : ∀ k, (KZ V o k).length <= k
 | 0 => by simp [KZ]
 | k + 1 => by
  have := Pj V o k
  rw [KZ, List.length_append]
  cases decide (0 <= EP V (atI o (k : Int))) && !(KZ V o k).contains (EP V (atI o (k : Int)))
  ·rw [cond_false, List.length_nil]; omega
  ·rw [cond_true, List.length_singleton]; omega
theorem Pk (V o : List Int) : ∀ k, (KZ V o k).Nodup
 | 0 => List.nodup_nil
 | k + 1 => by
  rw [KZ]
  cases hb : decide (0 <= EP V (atI o (k : Int))) && !(KZ V o k).contains (EP V (atI o (k : Int))) with
  | false => rw [cond_false, List.append_nil]; exact Pk V o k
  | true =>
   rw [Bool.and_eq_true, Bool.not_eq_true'] at hb
   rw [cond_true]
   refine List.nodup_append.2 ⟨Pk V o k, by simp, fun x hx y hy e => ?_⟩
   simp only [List.mem_singleton] at hy
   subst e hy
   have := hb.2
   rw [<- Bool.not_eq_true, List.contains_iff_mem] at this
   exact this hx
theorem W5 {l : List Int} {v : Int} (h : 0 <= EP l v) : EP l v < (l.length : Int) ∧ l.contains v = true := by
 have hc : l.contains v = true := by rw [<- Ky]; exact decide_eq_true h
 obtain ⟨k, hk, e1, _⟩ := KS hc
 exact ⟨by omega, hc⟩
theorem Rp (V o : List Int) : ∀ k, ∀ x ∈ KZ V o k, 0 <= x ∧ x < (V.length : Int)
 | 0, x, h => by cases h
 | k + 1, x, h => by
  rw [KZ] at h
  rcases List.mem_append.1 h with h | h
  ·exact Rp V o k x h
  ·cases hb : decide (0 <= EP V (atI o (k : Int))) && !(KZ V o k).contains (EP V (atI o (k : Int))) with
   | false => rw [hb] at h; cases h
   | true =>
    rw [hb, cond_true, List.mem_singleton] at h
    rw [Bool.and_eq_true, decide_eq_true_eq] at hb
    subst h
    exact ⟨hb.1, (W5 hb.1).1⟩
theorem Ud (V o : List Int) {x : Int} : ∀ {d i : Nat}, x ∈ KZ V o i -> x ∈ KZ V o (i + d)
 | 0, _, h => h
 | d + 1, i, h => by
  rw [show i + (d + 1) = (i + d) + 1 by omega, KZ]
  exact List.mem_append_left _ (Ud V o h)
theorem Wp {V o : List Int} (hn : V.Nodup) {j i : Nat} (hj : j < V.length) (hi : i < o.length) (he : o[i] = V[j]) : (j : Int) ∈ KZ V o o.length := by
 have hc : V.contains o[i] = true := by rw [List.contains_iff_mem, he]; exact List.getElem_mem hj
 obtain ⟨p, hp, e1, e2⟩ := KS hc
 have hpj : p = j := by
  apply Classical.byContradiction
  intro hne
  rw [List.nodup_iff_pairwise_ne, List.pairwise_iff_getElem] at hn
  rw [he] at e2
  rcases Nat.lt_or_ge p j with h | h
  ·exact hn p j hp hj h e2
  ·exact hn j p hj hp (by omega) e2.symm
 have hmem : (j : Int) ∈ KZ V o (i + 1) := by
  rw [KZ, GM hi, e1, hpj]
  rw [decide_eq_true (by omega : (0 : Int) <= (j : Int)), Bool.true_and]
  cases hb : (KZ V o i).contains (j : Int) with
  | true => exact List.mem_append_left _ (List.contains_iff_mem.1 hb)
  | false => exact List.mem_append_right _ (by simp)
 have := Ud V o (d := o.length - (i + 1)) hmem
 rwa [show i + 1 + (o.length - (i + 1)) = o.length by omega] at this
theorem Uc {V o : List Int} (hn : V.Nodup) (h : ∀ v ∈ V, v ∈ o) : (KZ V o o.length).length = V.length := by
 have h1 := few V.length (KZ V o o.length) (Pk V o _) (Rp V o _)
 have h2 : ((List.range V.length).map fun (j : Nat) => (j : Int)).length <= (KZ V o o.length).length := by
  refine Sy ?_ ?_
  ·rw [List.nodup_iff_pairwise_ne, List.pairwise_map]
   have h := List.nodup_range (n := V.length)
   rw [List.nodup_iff_pairwise_ne] at h
   exact h.imp fun h e => h (by omega)
  ·intro x hx
   obtain ⟨j, hj, rfl⟩ := List.mem_map.1 hx
   have hj := List.mem_range.1 hj
   obtain ⟨i, hi, he⟩ := List.mem_iff_getElem.1 (h _ (List.getElem_mem hj))
   exact Wp hn hj hi he
 rw [List.length_map, List.length_range] at h2
 omega
def Wo (a : Atm) (o : List Int) : List Int := KZ (avL a 5) o o.length
theorem jB {a : Atm} {o : List Int} (ha : Ll a) (ho : o.length <= 5) : D0 a o = some (Wo a o) := by
 have hal : a.2.length <= lim := by have := ha.1; unfold lim; omega
 have hv5 := JS a 5
 unfold D0
 rw [j8 hal, DK]
 have := BJ (body := Bp o (avL a 5)) (out := Wo a o) (fun k => (KZ (avL a 5) o k, (k : Int))) o.length (fun k hk rec => by
  have hl := Pj (avL a 5) o k
  have hJ : ∀ (v : Int) (b : Bool), BV rec (KZ (avL a 5) o k) (k : Int) v b = rec (KZ (avL a 5) o k ++ cond b [v] [], ((k + 1 : Nat) : Int)) := fun v b => by
   rw [BV]
   cases b with
   | true => rw [cond_true, Am (by simp only [List.length_singleton]; unfold lim; omega), BW, AH hk (by unfold maxLen; omega)]; rfl
   | false => rw [cond_false, BW, AH hk (by unfold maxLen; omega), cond_false, List.append_nil]
  rw [Bp, KZ]
  rw [AC hk, Ak hk, cond_true, DK, O4 (by unfold lim; omega), DK, GM hk]
  cases hd : decide (0 <= EP (avL a 5) o[k]) with
  | true => rw [cond_true, O4 (by unfold lim; omega), DK, WA, hJ, Bool.true_and]
  | false => rw [cond_false, hJ, Bool.false_and]) (fun rec => by rw [Bp]; rw [Ay]; rfl) fz (G0 (by unfold lim; omega))
 rw [show ((([] : List Int), (0 : Int))) = (KZ (avL a 5) o 0, ((0 : Nat) : Int)) from rfl, this]
 rfl
theorem ib {a : Atm} {o : List Int} (ha : Ll a) (ho : o.length <= 5) : DX a o = some (Wo a o) := by
 have hal : a.2.length <= lim := by have := ha.1; unfold lim; omega
 have hv5 := JS a 5
 unfold DX
 rw [jV hal (fun v => fA hal v), DK]
 have := BJ (body := Bn o (avL a 5)) (out := Wo a o) (fun k => (KZ (avL a 5) o k, (k : Int))) o.length (fun k hk rec => by
  have hl := Pj (avL a 5) o k
  have hJ : ∀ (v : Int) (b : Bool), BT rec (KZ (avL a 5) o k) (k : Int) v b = rec (KZ (avL a 5) o k ++ cond b [v] [], ((k + 1 : Nat) : Int)) := fun v b => by
   rw [BT]
   cases b with
   | true => rw [cond_true, Am (by simp only [List.length_singleton]; unfold lim; omega), BU, AH hk (by unfold maxLen; omega)]; rfl
   | false => rw [cond_false, BU, AH hk (by unfold maxLen; omega), cond_false, List.append_nil]
  rw [Bn, KZ]
  rw [AC hk, Ak hk, cond_true, DK, UF (by unfold lim; omega), DK, GM hk]
  cases hd : decide (0 <= EP (avL a 5) o[k]) with
  | true => rw [cond_true, YU (by unfold lim; omega), DK, hJ, Bool.true_and]
  | false => rw [cond_false, hJ, Bool.false_and]) (fun rec => by rw [Bn]; rw [Ay]; rfl) fz (G0 (by unfold lim; omega))
 rw [show ((([] : List Int), (0 : Int))) = (KZ (avL a 5) o 0, ((0 : Nat) : Int)) from rfl, this]
 rfl
def TD (r : Int × List (List Int)) (c : List Int) : Prop := G9 r = true ∧ (c.length : Int) = r.1 ∧ c.Nodup ∧ ∀ e ∈ c, 0 <= e ∧ e < r.1
def OG (r : Int × List (List Int)) (c : List Int) : Int × List (List Int) := ((c.length : Int), sortB (r.2.map fun x => MJ x c))
theorem PQ {r : Int × List (List Int)} {c : List Int} (h : TD r c) : Bk r.2 ∧ c.length <= 5 ∧ (∀ x ∈ r.2, ∀ e ∈ c, 0 <= e ∧ e < (x.length : Int)) ∧ (∀ x ∈ r.2.map fun x => MJ x c, (x.length : Int) = (c.length : Int) ∧ MQ x = true) ∧ r.2.length <= 4000 := by
 obtain ⟨h1, h2, h3, h4⟩ := h
 have h5 := KU h1
 refine ⟨⟨by have := h5.2.2.1; unfold lim; omega, fun x hx => by have := (h5.2.2.2 x hx).1; unfold lim; omega⟩, by omega, fun x hx e he => by have := (h5.2.2.2 x hx).1; have := h4 e he; omega, fun y hy => ?_, h5.2.2.1⟩
 obtain ⟨x, hx, rfl⟩ := List.mem_map.1 hy
 refine ⟨by unfold MJ; rw [List.length_map], Xw fun v hv => ?_⟩
 unfold MJ at hv
 obtain ⟨e, he, rfl⟩ := List.mem_map.1 hv
 have h6 := h4 e he
 have h7 := h5.2.2.2 x hx
 have e2 : e = ((e.toNat : Nat) : Int) := by omega
 rw [e2, GM (by omega)]
 exact TX h7.2 (by omega)
theorem Vo {r : Int × List (List Int)} {c : List Int} (h : TD r c) : btw (c.length : Int) 0 5 = true ∧ Bk (r.2.map fun x => MJ x c) := by
 obtain ⟨h1, h2, h3, h4, h5⟩ := PQ h
 refine ⟨by unfold btw; simp; omega, by rw [List.length_map]; exact h1.1, fun x hx => by have := (h4 x hx).1; unfold lim; omega⟩
theorem eG {r : Int × List (List Int)} {c : List Int} (h : TD r c) : Hb r c = some (OG r c, true) := by
 obtain ⟨h1, h2, h3, h4, h5⟩ := PQ h
 obtain ⟨h6, h7⟩ := Vo h
 obtain ⟨g1, g2, g3, g4⟩ := h
 have hr := KU g1
 have hloop : Ai (Fx r c) fz 0 = some (.inl ()) := by
  have := KM (B := Fx r c) (n := c.length) (fun _ => false) ((0, []), false) (by unfold lim; omega) (fun k hk rec => by
   have he := g4 _ (List.getElem_mem hk)
   rw [Fx]
   rw [AC hk, Ak hk, cond_true, DK, Kz, DK, wrap_in (by omega), AH hk (by unfold maxLen; omega)]
   have : btw c[k] 0 (r.1 - 1) = true := by unfold btw; simp; omega
   rw [this]; rfl) (fun rec => by rw [Fx]; rw [Ay]; rfl)
  rw [this]
  have e : ((List.range c.length).any fun _ => false) = false := by rw [List.any_eq_false]; intro _ _; simp
  rw [e]; rfl
 have hrows : Ai (GF r c) fz (([] : List (List Int)), 0) = some (r.2.map fun x => MJ x c) :=
  Gj (a := r.2) (h := fun x => MJ x c) h1.1 (fun k hk rec => by
   rw [GF]
   rw [AC hk, Ak hk, AH hk (Ax h1.1), cond_true, DK, eh (by unfold lim; omega) (h3 _ (List.getElem_mem hk)), DK, Am (by simp only [List.length_map, List.length_take, List.length_singleton]; unfold lim; omega)]) (fun rec y => by rw [GF]; rw [Ay]; rfl)
 have hp : Ij r c = some (OG r c, true) := by
  unfold Ij OG
  rw [hloop, DK]
  simp only
  rw [Oj h1, DK, g1, Bool.not_true, cond_false, decide_eq_false (by omega), cond_false, hrows, DK, eB h7, DK, Zw h6 (by rw [List.length_map]; exact h5) h4]
 unfold Hb
 rw [Ye (by unfold lim; omega), DK, Yh (by omega) g3 (fun e he => by have := g4 e he; omega), decide_eq_true (by omega)]
 rw [show ((c.length : Int) != r.1) = false by rw [g2]; simp, hp]
 rfl
theorem bE {r : Int × List (List Int)} {c : List Int} (h : TD r c) : G3 r c = some (OG r c, true) := by
 obtain ⟨h1, h2, h3, h4, h5⟩ := PQ h
 obtain ⟨h6, h7⟩ := Vo h
 obtain ⟨g1, g2, g3, g4⟩ := h
 have hr := KU g1
 have hfit : DE r.1 c = some true := by
  by_cases h0 : c.length = 0
  ·have : c = [] := List.eq_nil_of_length_eq_zero h0
   subst this
   unfold DE
   rw [decide_eq_false (by simp), cond_false]
   have e : Ai (CD r.1 []) fz 0 = some (.inl ()) := BJ (body := CD r.1 []) (fun _ => (0 : Int)) 0 (fun k hk => absurd hk (by omega)) (fun rec => by rw [CD]; rfl) fz (by unfold fz; omega)
   rw [e]; rfl
  ·exact XP (by omega) h2 g4
 have hrows : Ai (Gu r c) fz (([] : List (List Int)), 0) = some (r.2.map fun x => MJ x c) :=
  Gj (a := r.2) (h := fun x => MJ x c) h1.1 (fun k hk rec => by
   rw [Gu]
   rw [AC hk, Ak hk, AH hk (Ax h1.1), cond_true, DK, XT (by unfold lim; omega) (h3 _ (List.getElem_mem hk)), DK, Am (by simp only [List.length_map, List.length_take, List.length_singleton]; unfold lim; omega)]) (fun rec y => by rw [Gu]; rw [Ay]; rfl)
 have hp : Ie r c = some (OG r c, true) := by
  unfold Ie OG
  rw [M0 h1, DK, g1, Bool.not_true, cond_false, hfit, DK, Bool.not_true, cond_false, hrows, DK, jW h7, DK, Zw h6 (by rw [List.length_map]; exact h5) h4]
 unfold G3 Gf DD
 rw [decide_eq_true (by omega), cond_true, YZ (by unfold lim; omega), DK, Yh (by omega) g3 (fun e he => by have := g4 e he; omega)]
 rw [show ((c.length : Int) != r.1) = false by rw [g2]; simp, hp]
 rfl
theorem SO {r : Int × List (List Int)} {c : List Int} (h : TD r c) : G9 (OG r c) = true ∧ (OG r c).2.length <= r.2.length := by
 obtain ⟨h1, h2, h3, h4, h5⟩ := PQ h
 refine ⟨PV (Vo h).1 (by rw [List.length_map]; exact h5) h4, ?_⟩
 unfold OG
 have := H2 (r.2.map fun x => MJ x c)
 rw [List.length_map] at this
 exact this
def Q4 (d : List Tbl) (o : List Int) (a : Atm) : Int × List (List Int) := OG (abB d a) (Wo a o)
theorem O9 {d : List Tbl} {q : Qry} {o : List Int} {a : Atm} (hq : LD q = true) (ho : OF q o = true) (ha : a ∈ q.2.1) (hf : Gp d a = true) : Ll a ∧ TD (abB d a) (Wo a o) := by
 have h1 := Od hq
 have h2 := h1.2.2.2 a ha
 have hok : Ll a := ⟨h2.1, fun v hv => by have := h2.2 v hv; omega⟩
 have h3 := HJ ho
 have hfull : (Wo a o).length = (avL a 5).length := Uc (Wd a) fun v hv => by
  have hm := NJ.1 hv
  have := h2.2 v (List.contains_iff_mem.1 hm.2)
  exact h3.2.2.2 v this.1 this.2
 refine ⟨hok, (Xr hok hf).1, ?_, Pk _ _ _, fun e he => ?_⟩
 ·show ((Wo a o).length : Int) = ((avL a 5).length : Int)
  rw [hfull]
 ·exact Rp _ _ _ e he
theorem Vs {d : List Tbl} {q : Qry} (h : J0 d q = true) : LD q = true ∧ dbB d = true ∧ ∀ a ∈ q.2.1, Gp d a = true := by
 unfold J0 at h
 simp only [Bool.and_eq_true, Bool.not_eq_true'] at h
 refine ⟨h.1, h.2.1, fun a ha => ?_⟩
 obtain ⟨k, hk, rfl⟩ := List.mem_iff_getElem.1 ha
 have := D6 h.2.2 hk
 simpa using this
def O7 (d : List Tbl) (q : Qry) (o : List Int) : List (Int × List (List Int)) × Bool := cond (J0 d q && OF q o) (q.2.1.map (Q4 d o), true) ([], false)
theorem ZZ {d : List Tbl} {q : Qry} {o : List Int} (h : Kb d) (hq : smQ q) (ho : o.length <= lim) : GD d q o = some (O7 d q o) := by
 unfold GD O7
 rw [Yf h hq, DK]
 cases hf : J0 d q with
 | false => rfl
 | true =>
  rw [Bool.not_true, cond_false, VE hq ho, DK]
  cases hor : OF q o with
  | false => rfl
  | true =>
   have hfit := Vs hf
   have h1 := Od hfit.1
   have hol : o.length <= 5 := by have := (HJ hor).1; omega
   rw [Bool.not_true, cond_false]
   have := aF (v := (([] : List (Int × List (List Int))), false)) (B := E4 d q o) (n := q.2.1.length) (fun k => (q.2.1.take k).map (Q4 d o)) (fun _ => false) hq.1 (fun k hk rec => by
    have hmem := List.getElem_mem hk
    obtain ⟨hok, hp⟩ := O9 hfit.1 hor hmem (hfit.2.2 _ hmem)
    have hs := eG hp
    rw [E4]
    rw [AC hk, Ak hk, AH hk (Ax hq.1), cond_true, DK, kV h hok (hfit.2.2 _ hmem), DK, DK, jB hok hol, DK, hs, DK, Bool.not_true, cond_false, Am (by simp only [List.length_map, List.length_take, List.length_singleton]; unfold lim; omega), List.take_succ_eq_append_getElem hk, List.map_append]
    rfl) (fun rec => by rw [E4]; rw [Ay]; rfl)
   have e : ((List.range q.2.1.length).any fun _ => false) = false := by rw [List.any_eq_false]; intro _ _; simp
   rw [e, List.take_length] at this
   rw [show ((([] : List (Int × List (List Int))), (0 : Int))) = ((q.2.1.take 0).map (Q4 d o), 0) from rfl, this]
   rfl
theorem Y1 {d : List Tbl} {q : Qry} {o : List Int} (h : Kb d) (hq : smQ q) (ho : o.length <= lim) : Gr d q o = some (O7 d q o) := by
 unfold Gr O7
 rw [bz h hq, DK]
 cases hf : J0 d q with
 | false => rfl
 | true =>
  rw [Bool.not_true, cond_false, YW hq ho, DK]
  cases hor : OF q o with
  | false => rfl
  | true =>
   have hfit := Vs hf
   have h1 := Od hfit.1
   have hol : o.length <= 5 := by have := (HJ hor).1; omega
   rw [Bool.not_true, cond_false]
   rw [Gj (a := q.2.1) (h := Q4 d o) hq.1 (fun k hk rec => by
    have hmem := List.getElem_mem hk
    obtain ⟨hok, hp⟩ := O9 hfit.1 hor hmem (hfit.2.2 _ hmem)
    have hs := bE hp
    rw [Gd]
    rw [AC hk, Ak hk, AH hk (Ax hq.1), cond_true, DK, kB h hok (hfit.2.2 _ hmem), DK, ib hok hol, DK, hs, DK, Am (by simp only [List.length_map, List.length_take, List.length_singleton]; unfold lim; omega)]
    rfl) (fun rec y => by rw [Gd]; rw [Ay]; rfl)]
   rfl
end Go.Proofs.YtlknpohjnpnodaaGreat
