/-
 The children of a trie, and the bound from degrees: the reference and the program agree. On the printed functions; conditions: the query fits.
-/
import Derived.Test.YtlknpohjnpnodaaGreatTtSC1
namespace Go.Proofs.YtlknpohjnpnodaaGreat
open Go.RowKit
set_option linter.unusedVariables false
set_option linter.unusedSimpArgs false
abbrev Tri := Int × List (List Int)
theorem sub_le {r : List Int} {lo hi : Int} : (A7 r lo hi).length <= r.length := by
 unfold A7
 rw [List.length_drop, List.length_take]; omega
theorem ZM {t : Tri} {pre : List Int} (h : Bk t.2) : D7 t pre = AS t pre := by
 funext rec y
 rw [D7, AS]
 cases hg : AA t.2 y with
 | none => rfl
 | some e =>
  have hm : e ∈ t.2 := List.mem_of_getElem? (Az hg).2.2
  have hl : (A7 e 0 (pre.length : Int)).length <= lim := Nat.le_trans sub_le (h.2 e hm)
  rw [DK, DK, Ma hl, OB hl]
theorem ZN {t : Tri} {pre : List Int} (h : Bk t.2) : D8 t pre = AT t pre := by
 funext rec y
 rw [D8, AT]
 cases hg : AA t.2 y with
 | none => rfl
 | some e =>
  have hm : e ∈ t.2 := List.mem_of_getElem? (Az hg).2.2
  have hl : (A7 e 0 (pre.length : Int)).length <= lim := Nat.le_trans sub_le (h.2 e hm)
  rw [DK, DK, Ma hl, OB hl]
def Mj (t : Tri) (n : Nat) : Prop := G9 t = true ∧ (n : Int) <= t.1
theorem Ov {t : Tri} {n : Nat} (h : Mj t n) : Bk t.2 ∧ t.2.length <= 4000 ∧ ∀ r ∈ t.2, (r.length : Int) = t.1 ∧ r.length <= 5 := by
 have h1 := KU h.1
 exact ⟨⟨by have := h1.2.2.1; unfold lim; omega, fun x hx => by have := (h1.2.2.2 x hx).1; unfold lim; omega⟩, h1.2.2.1, fun r hr => ⟨(h1.2.2.2 r hr).1, by have := (h1.2.2.2 r hr).1; omega⟩⟩
theorem W9 {t : Tri} {pre : List Int} (h : Mj t pre.length) : ∃ o, Ai (AS t pre) fz 0 = some o ∧ ∃ k : Nat, o = (k : Int) ∧ k <= t.2.length := by
 obtain ⟨h1, h2, h3⟩ := Ov h
 refine FP (B := AS t pre) (fun s => ∃ k : Nat, s = (k : Int) ∧ k <= t.2.length) (fun s => t.2.length - s.toNat) (fun o => ∃ k : Nat, o = (k : Int) ∧ k <= t.2.length) ?_ fz 0 ⟨0, rfl, by omega⟩ (by unfold fz; omega)
 rintro s ⟨k, rfl, hk⟩
 rcases Nat.lt_or_ge k t.2.length with hlt | hge
 ·have hr := h3 _ (List.getElem_mem hlt)
  have hl : (A7 t.2[k] 0 (pre.length : Int)).length <= lim := Nat.le_trans sub_le (h1.2 _ (List.getElem_mem hlt))
  have e : ∀ rec, AS t pre rec (k : Int) = cond (decide (Ej (A7 t.2[k] 0 (pre.length : Int)) pre < 0)) (rec ((k + 1 : Nat) : Int)) (some (k : Int)) := fun rec => by
   rw [AS]
   rw [AC hlt, Ak hlt, AH hlt (Ax h1.1), cond_true, DK, Am (by have := h.2; omega), Ma hl, DK]
  cases hc : decide (Ej (A7 t.2[k] 0 (pre.length : Int)) pre < 0) with
  | true => exact .inr ⟨((k + 1 : Nat) : Int), ⟨k + 1, rfl, hlt⟩, by rw [Int.toNat_natCast, Int.toNat_natCast]; omega, fun rec => by rw [e, hc]; rfl⟩
  | false => exact .inl ⟨(k : Int), ⟨k, rfl, hk⟩, fun rec => by rw [e, hc]; rfl⟩
 ·refine .inl ⟨(k : Int), ⟨k, rfl, hk⟩, fun rec => ?_⟩
  rw [AS]
  rw [decide_eq_false (by omega : ¬ (k : Int) < (t.2.length : Int))]; rfl
theorem W8 {t : Tri} {pre : List Int} (h : Mj t pre.length) {lo : Nat} (hlo : lo <= t.2.length) : ∃ o, Ai (AT t pre) fz (lo : Int) = some o ∧ ∃ k : Nat, o = (k : Int) ∧ lo <= k ∧ k <= t.2.length := by
 obtain ⟨h1, h2, h3⟩ := Ov h
 refine FP (B := AT t pre) (fun s => ∃ k : Nat, s = (k : Int) ∧ lo <= k ∧ k <= t.2.length) (fun s => t.2.length - s.toNat) (fun o => ∃ k : Nat, o = (k : Int) ∧ lo <= k ∧ k <= t.2.length) ?_ fz (lo : Int) ⟨lo, rfl, Nat.le_refl _, hlo⟩ (by unfold fz; omega)
 rintro s ⟨k, rfl, hk0, hk⟩
 rcases Nat.lt_or_ge k t.2.length with hlt | hge
 ·have hr := h3 _ (List.getElem_mem hlt)
  have hl : (A7 t.2[k] 0 (pre.length : Int)).length <= lim := Nat.le_trans sub_le (h1.2 _ (List.getElem_mem hlt))
  have e : ∀ rec, AT t pre rec (k : Int) = cond (Ej (A7 t.2[k] 0 (pre.length : Int)) pre == 0) (rec ((k + 1 : Nat) : Int)) (some (k : Int)) := fun rec => by
   rw [AT]
   rw [AC hlt, Ak hlt, AH hlt (Ax h1.1), cond_true, DK, Am (by have := h.2; omega), Ma hl, DK]
  cases hc : (Ej (A7 t.2[k] 0 (pre.length : Int)) pre == 0) with
  | true => exact .inr ⟨((k + 1 : Nat) : Int), ⟨k + 1, rfl, by omega, hlt⟩, by rw [Int.toNat_natCast, Int.toNat_natCast]; omega, fun rec => by rw [e, hc]; rfl⟩
  | false => exact .inl ⟨(k : Int), ⟨k, rfl, hk0, hk⟩, fun rec => by rw [e, hc]; rfl⟩
 ·refine .inl ⟨(k : Int), ⟨k, rfl, hk0, hk⟩, fun rec => ?_⟩
  rw [AT]
  rw [decide_eq_false (by omega : ¬ (k : Int) < (t.2.length : Int))]; rfl
theorem RO {t : Tri} {pre : List Int} (h : Mj t pre.length) : ∃ lo hi : Nat, lo <= hi ∧ hi <= t.2.length ∧ Ai (AS t pre) fz 0 = some (lo : Int) ∧ Ai (AT t pre) fz (lo : Int) = some (hi : Int) ∧ CV t pre = some ((lo : Int), (hi : Int)) := by
 obtain ⟨h1, h2, h3⟩ := Ov h
 obtain ⟨o1, e1, lo, rfl, hlo⟩ := W9 h
 obtain ⟨o2, e2, hi, rfl, hhi⟩ := W8 h hlo
 refine ⟨lo, hi, hhi.1, hhi.2, e1, e2, ?_⟩
 unfold CV Hl J2
 rw [DK, Oj h1, DK, DK, h.1, Bool.not_true, cond_false, decide_eq_false (by have := h.2; omega), cond_false, e1, DK, e2, DK]
theorem ZO {t : Tri} {pre : List Int} (h : Mj t pre.length) {lo hi : Nat} (e1 : Ai (AS t pre) fz 0 = some (lo : Int)) (e2 : Ai (AT t pre) fz (lo : Int) = some (hi : Int)) : CQ t pre = some ((lo : Int), (hi : Int)) := by
 obtain ⟨h1, h2, h3⟩ := Ov h
 unfold CQ ER Gx
 rw [decide_eq_false (by have := h.2; omega), cond_false, DK, M0 h1, DK, DK, h.1, Bool.not_true, cond_false, ZM h1, ZN h1, e1, DK, e2, DK]
def pushB (out : List Int) (v : Int) : Bool := match out.getLast? with
 | none => true
 | some x => x != v
def chK (S : List (List Int)) (p : Nat) : Nat -> List Int
 | 0 => []
 | k + 1 => chK S p k ++ cond (pushB (chK S p k) (atI ((S[k]?).getD []) (p : Int))) [atI ((S[k]?).getD []) (p : Int)] []
theorem Pi (S : List (List Int)) (p : Nat) : ∀ k, (chK S p k).length <= k
 | 0 => by simp [chK]
 | k + 1 => by
  have := Pi S p k
  rw [chK, List.length_append]
  cases pushB (chK S p k) (atI ((S[k]?).getD []) (p : Int))
  ·rw [cond_false, List.length_nil]; omega
  ·rw [cond_true, List.length_singleton]; omega
theorem Qz {out : List Int} (h : out.length <= 4000) (v : Int) {α : Type} (f : Bool -> Option α) : cond ((out.length : Int) == 0) (f true) (Ad (AA out (IntKind.i64.wrap ((out.length : Int) - 1))) fun e => f (e != v)) = f (pushB out v) := by
 by_cases h0 : out.length = 0
 ·have : out = [] := List.eq_nil_of_length_eq_zero h0
  subst this; rfl
 ·have hj : out.length - 1 < out.length := by omega
  have e : ((out.length : Int) == 0) = false := by rw [beq_eq_false_iff_ne]; omega
  rw [e, cond_false, wrap_in (by omega), show (out.length : Int) - 1 = ((out.length - 1 : Nat) : Int) by omega, Ak hj, DK]
  unfold pushB
  rw [List.getLast?_eq_getElem?, List.getElem?_eq_getElem hj]
theorem gC {t : Tri} {pre : List Int} (h : Mj t pre.length) {lo hi : Nat} (hlh : lo <= hi) (hhi : hi <= t.2.length) (es : CV t pre = some ((lo : Int), (hi : Int))) : Cw t pre = some (if (pre.length : Int) < t.1 then chK (A7 t.2 (lo : Int) (hi : Int)) pre.length (hi - lo) else []) := by
 obtain ⟨h1, h2, h3⟩ := Ov h
 by_cases hp : (pre.length : Int) < t.1
 ·rw [if_pos hp]
  have hSl : (A7 t.2 (lo : Int) (hi : Int)).length = hi - lo := by
   unfold A7; rw [Int.toNat_natCast, Int.toNat_natCast, List.length_drop, List.length_take]; omega
  have hS : ∀ k, k < hi - lo -> (A7 t.2 (lo : Int) (hi : Int))[k]? = t.2[lo + k]? := fun k hk => by
   unfold A7
   rw [Int.toNat_natCast, Int.toNat_natCast, List.getElem?_drop, List.getElem?_take, if_pos (by omega)]
  have hat : ∀ k, k < hi - lo -> ∃ r, t.2[lo + k]? = some r ∧ r ∈ t.2 ∧ AA r (pre.length : Int) = some (atI r (pre.length : Int)) := fun k hk => by
   have hlt : lo + k < t.2.length := by omega
   have hr := h3 _ (List.getElem_mem hlt)
   exact ⟨_, List.getElem?_eq_getElem hlt, List.getElem_mem hlt, by rw [Ak (by omega), GM (by omega)]⟩
  unfold Cw
  rw [es, DK]
  have := BJ (body := A8 t pre ((lo : Int), (hi : Int))) (out := chK (A7 t.2 (lo : Int) (hi : Int)) pre.length (hi - lo)) (fun k => (chK (A7 t.2 (lo : Int) (hi : Int)) pre.length k, ((lo + k : Nat) : Int))) (hi - lo) (fun k hk rec => by
   obtain ⟨r, e1, hm, e2⟩ := hat k hk
   have hl := Pi (A7 t.2 (lo : Int) (hi : Int)) pre.length k
   have hJ : ∀ b : Bool, B9 rec (chK (A7 t.2 (lo : Int) (hi : Int)) pre.length k) ((lo + k : Nat) : Int) (atI r (pre.length : Int)) b = rec (chK (A7 t.2 (lo : Int) (hi : Int)) pre.length k ++ cond b [atI r (pre.length : Int)] [], ((lo + (k + 1) : Nat) : Int)) := fun b => by
    have hw : IntKind.i64.wrap (((lo + k : Nat) : Int) + 1) = ((lo + (k + 1) : Nat) : Int) := by rw [wrap_in (by omega)]; omega
    rw [B9]
    cases b with
    | true => rw [cond_true, Am (by simp only [List.length_singleton]; unfold lim; omega), CU, hw]; rfl
    | false => rw [cond_false, CU, hw, cond_false, List.append_nil]
   rw [A8, chK, hS k hk, e1]
   rw [decide_eq_true (by omega : ((lo + k : Nat) : Int) < (hi : Int)), cond_true, decide_eq_true hp, cond_true, FI, e1, DK, e2, DK, Option.getD_some]
   rw [Qz (by omega) (atI r (pre.length : Int)) (fun b => B9 rec (chK (A7 t.2 (lo : Int) (hi : Int)) pre.length k) ((lo + k : Nat) : Int) (atI r (pre.length : Int)) b), hJ]) (fun rec => by
   rw [A8]
   rw [decide_eq_false (by omega : ¬ ((lo + (hi - lo) : Nat) : Int) < (hi : Int))]; rfl) fz (by unfold fz; omega)
  rw [show ((([] : List Int), (lo : Int))) = (chK (A7 t.2 (lo : Int) (hi : Int)) pre.length 0, ((lo + 0 : Nat) : Int)) from rfl, this]
  rfl
 ·rw [if_neg hp]
  unfold Cw
  rw [es, DK]
  have : Ai (A8 t pre ((lo : Int), (hi : Int))) fz (([] : List Int), (lo : Int)) = some [] := BJ (body := A8 t pre ((lo : Int), (hi : Int))) (fun _ => (([] : List Int), (lo : Int))) 0 (fun k hk => absurd hk (by omega)) (fun rec => by
   rw [A8]
   rw [decide_eq_false hp]
   cases decide ((lo : Int) < (hi : Int)) <;> rfl) fz (by unfold fz; omega)
  rw [show (((lo : Int), (hi : Int)) : Int × Int).1 = (lo : Int) from rfl, this]
  rfl
theorem gA {t : Tri} {pre : List Int} (h : Mj t pre.length) {lo hi : Nat} (hlh : lo <= hi) (hhi : hi <= t.2.length) (ei : CQ t pre = some ((lo : Int), (hi : Int))) : Dm t pre = some (if (pre.length : Int) < t.1 then chK (A7 t.2 (lo : Int) (hi : Int)) pre.length (hi - lo) else []) := by
 obtain ⟨h1, h2, h3⟩ := Ov h
 by_cases hp : (pre.length : Int) < t.1
 ·rw [if_pos hp]
  have hSl : (A7 t.2 (lo : Int) (hi : Int)).length = hi - lo := by
   unfold A7; rw [Int.toNat_natCast, Int.toNat_natCast, List.length_drop, List.length_take]; omega
  have hS : ∀ k, k < hi - lo -> (A7 t.2 (lo : Int) (hi : Int))[k]? = t.2[lo + k]? := fun k hk => by
   unfold A7
   rw [Int.toNat_natCast, Int.toNat_natCast, List.getElem?_drop, List.getElem?_take, if_pos (by omega)]
  have hat : ∀ k, k < hi - lo -> ∃ r, t.2[lo + k]? = some r ∧ r ∈ t.2 ∧ AA r (pre.length : Int) = some (atI r (pre.length : Int)) := fun k hk => by
   have hlt : lo + k < t.2.length := by omega
   have hr := h3 _ (List.getElem_mem hlt)
   exact ⟨_, List.getElem?_eq_getElem hlt, List.getElem_mem hlt, by rw [Ak (by omega), GM (by omega)]⟩
  unfold Dm
  rw [decide_eq_false (by omega : ¬ t.1 <= (pre.length : Int)), cond_false]
  unfold ER Gx
  rw [DK, M0 h1, DK, DK, h.1, Bool.not_true, cond_false, ei, DK, Am (by simp only; omega)]
  have := BJ (body := B3 t pre ((lo : Int), (hi : Int))) (out := chK (A7 t.2 (lo : Int) (hi : Int)) pre.length (hi - lo)) (fun k => (chK (A7 t.2 (lo : Int) (hi : Int)) pre.length k, (k : Int))) (hi - lo) (fun k hk rec => by
   obtain ⟨r, e1, hm, e2⟩ := hat k hk
   have hl := Pi (A7 t.2 (lo : Int) (hi : Int)) pre.length k
   have hJ : ∀ b : Bool, B4 rec pre (chK (A7 t.2 (lo : Int) (hi : Int)) pre.length k) (k : Int) r b = rec (chK (A7 t.2 (lo : Int) (hi : Int)) pre.length k ++ cond b [atI r (pre.length : Int)] [], ((k + 1 : Nat) : Int)) := fun b => by
    have hw : IntKind.i64.wrap ((k : Int) + 1) = ((k + 1 : Nat) : Int) := by rw [wrap_in (by omega)]; omega
    rw [B4]
    cases b with
    | true => rw [cond_true, e2, DK, Am (by simp only [List.length_singleton]; unfold lim; omega), CP, hw]; rfl
    | false => rw [cond_false, CP, hw, cond_false, List.append_nil]
   rw [B3, chK]
   rw [hSl, decide_eq_true (by omega : (k : Int) < ((hi - lo : Nat) : Int)), cond_true, FI, hS k hk, e1, DK, e2, Option.getD_some]
   simp only [DK]
   rw [Qz (by omega) (atI r (pre.length : Int)) (fun b => B4 rec pre (chK (A7 t.2 (lo : Int) (hi : Int)) pre.length k) (k : Int) r b), hJ]) (fun rec => by
   rw [B3]
   rw [hSl, Ay]; rfl) fz (by unfold fz; omega)
  rw [show ((([] : List Int), (0 : Int))) = (chK (A7 t.2 (lo : Int) (hi : Int)) pre.length 0, ((0 : Nat) : Int)) from rfl, this]
  rfl
 ·rw [if_neg hp]
  unfold Dm
  rw [decide_eq_true (by omega : t.1 <= (pre.length : Int))]; rfl
def chB (t : Tri) (pre : List Int) : List Int := (Cw t pre).getD []
theorem kX {t : Tri} {pre : List Int} (h : Mj t pre.length) : Cw t pre = some (chB t pre) := by
 obtain ⟨lo, hi, h1, h2, _, _, e⟩ := RO h
 unfold chB; rw [gC h h1 h2 e]; rfl
theorem kD {t : Tri} {pre : List Int} (h : Mj t pre.length) : Dm t pre = some (chB t pre) := by
 obtain ⟨lo, hi, h1, h2, e1, e2, e⟩ := RO h
 unfold chB; rw [gC h h1 h2 e, gA h h1 h2 (ZO h e1 e2)]; rfl
def ixK (q : Qry) (v : Int) (k : Nat) : List Nat := (List.range k).filter fun i => atB q.2.1 i fun a => a.2.contains v
theorem bG (q : Qry) (v : Int) (k : Nat) : ixK q v (k + 1) = ixK q v k ++ cond (atB q.2.1 k fun a => a.2.contains v) [k] [] := by
 unfold ixK
 rw [List.range_succ, List.filter_append, List.filter_cons, List.filter_nil]
 cases (atB q.2.1 k fun a => a.2.contains v) <;> rfl
theorem PF (q : Qry) (v : Int) (k : Nat) : (ixK q v k).length <= k := by
 unfold ixK
 exact Nat.le_trans (List.length_filter_le _ _) (by simp)
def ixB (q : Qry) (v : Int) : List Int := (ixK q v q.2.1.length).map fun (i : Nat) => (i : Int)
theorem kZ {q : Qry} (hq : smQ q) (hv : LD q = true) (v : Int) : Dc q v = some (ixB q v) := by
 unfold Dc
 have hlim := hq.1
 have h4 := (Od hv).2.2.1
 have := BJ (body := BA q v) (out := ixB q v) (fun k => ((ixK q v k).map fun (i : Nat) => (i : Int), (k : Int))) q.2.1.length (fun k hk rec => by
  have hl := PF q v k
  have hJ : ∀ y, BB rec (k : Int) y = rec (y, ((k + 1 : Nat) : Int)) := fun y => by rw [BB, AH hk (Ax hq.1)]
  rw [BA, bG, AY hk, List.map_append]
  rw [AC hk, cond_true, Oi hq, DK, hv, cond_true, Ak hk, DK, fJ (hq.2.1 _ (List.getElem_mem hk)).2, DK, hJ, hJ]
  cases q.2.1[k].2.contains v with
  | true => rw [cond_true, Am (by rw [List.length_map]; simp only [List.length_singleton]; unfold lim; omega)]; rfl
  | false => rw [cond_false, cond_false, List.map_nil, List.append_nil]) (fun rec => by rw [BA]; rw [Ay]; rfl) fz (G0 hq.1)
 rw [show ((([] : List Int), (0 : Int))) = ((ixK q v 0).map fun (i : Nat) => (i : Int), ((0 : Nat) : Int)) from rfl, this]
 rfl
theorem bH {q : Qry} {v : Int} {i : Nat} (h : i ∈ ixK q v q.2.1.length) : ∃ hi : i < q.2.1.length, (q.2.1[i]).2.contains v = true := by
 unfold ixK at h
 have h1 := List.mem_filter.1 h
 have h2 := List.mem_range.1 h1.1
 exact ⟨h2, by have := h1.2; rw [AY h2] at this; exact this⟩
def Ws (a : Atm) (o : List Int) (k : Nat) : Nat := ((o.take k).filter a.2.contains).length
theorem gE (a : Atm) {o : List Int} {k : Nat} (hk : k < o.length) : Ws a o (k + 1) = Ws a o k + cond (a.2.contains o[k]) 1 0 := by
 unfold Ws
 rw [XL _ hk, List.length_append]
 cases a.2.contains o[k] <;> rfl
theorem XC (a : Atm) (o : List Int) (k : Nat) : Ws a o k <= k := by
 unfold Ws
 exact Nat.le_trans (List.length_filter_le _ _) (by simp; omega)
structure TriesOk (T : List Tri) (q : Qry) (o : List Int) : Prop where
 sm : smQ q
 qv : LD q = true
 ov : OF q o = true
 len : T.length = q.2.1.length
 rel : ∀ (i : Nat) (hi : i < q.2.1.length), G9 (T[i]'(by rw [len]; exact hi)) = true ∧ (T[i]'(by rw [len]; exact hi)).1 = ((avL q.2.1[i] 5).length : Int)
theorem VY {T : List Tri} {q : Qry} {o : List Int} (h : TriesOk T q o) {i k : Nat} (hi : i < q.2.1.length) (hk : k <= o.length) : Mj (T[i]'(by rw [h.len]; exact hi)) (Ws q.2.1[i] o k) := by
 have h1 := h.rel i hi
 refine ⟨h1.1, ?_⟩
 rw [h1.2]
 have ho := HJ h.ov
 have hq := MK h.qv
 have : ((o.take k).filter q.2.1[i].2.contains).length <= (avL q.2.1[i] 5).length := Sy ((ho.2.1.sublist (List.take_sublist _ _)).sublist List.filter_sublist) fun v hv => by
  have h2 := List.mem_filter.1 hv
  have h3 := ho.2.2.1 v (List.mem_of_mem_take h2.1)
  exact NJ.2 ⟨by omega, h2.2⟩
 unfold Ws
 omega
theorem bI {q : Qry} (hv : LD q = true) {v : Int} (h0 : 0 <= v) (h1 : v < q.1) : (ixK q v q.2.1.length).length ≠ 0 := by
 unfold LD at hv
 simp only [Bool.and_eq_true, Bool.not_eq_true'] at hv
 have h2 := hv.2.2.2.2
 have h3 := List.any_eq_false.1 h2 v.toNat (List.mem_range.2 (by omega))
 rw [show ((v.toNat : Nat) : Int) = v by omega] at h3
 simp only [Bool.not_eq_true, Bool.not_eq_false'] at h3
 unfold Ir at h3
 obtain ⟨a, ha, hc⟩ := List.any_eq_true.1 h3
 obtain ⟨i, hi, rfl⟩ := List.mem_iff_getElem.1 ha
 have : i ∈ ixK q v q.2.1.length := by
  unfold ixK
  exact List.mem_filter.2 ⟨List.mem_range.2 hi, by rw [AY hi]; exact hc⟩
 intro e
 rw [List.eq_nil_of_length_eq_zero e] at this
 cases this
theorem Qd {d : List Tbl} {q : Qry} {o : List Int} (hq : smQ q) (hf : J0 d q = true) (ho : OF q o = true) : TriesOk (q.2.1.map (Q4 d o)) q o := by
 have hfit := Vs hf
 refine ⟨hq, hfit.1, ho, by rw [List.length_map], fun i hi => ?_⟩
 have hmem := List.getElem_mem hi
 obtain ⟨hok, hp⟩ := O9 hfit.1 ho hmem (hfit.2.2 _ hmem)
 rw [List.getElem_map]
 refine ⟨(SO hp).1, ?_⟩
 show ((Wo q.2.1[i] o).length : Int) = _
 exact hp.2.1
end Go.Proofs.YtlknpohjnpnodaaGreat
