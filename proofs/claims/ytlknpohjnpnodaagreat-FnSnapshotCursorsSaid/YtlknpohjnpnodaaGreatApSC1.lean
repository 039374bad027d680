/-
 ApplyDelta: the reference and the program give the same. On the printed functions; conditions: lengths.
-/
import Derived.Test.YtlknpohjnpnodaaGreatSrSC1
import Derived.Test.YtlknpohjnpnodaaGreatNrSC1
import Derived.Test.YtlknpohjnpnodaaGreatFhSC1
namespace Go.Proofs.YtlknpohjnpnodaaGreat
open Go.RowKit
set_option linter.unusedVariables false
set_option linter.unusedSimpArgs false
theorem KT {r : Rln} (h : G9 r = true) (p : Row -> Bool) : G9 (r.1, r.2.filter p) = true := by
 obtain ⟨h1, h2, h3, h4⟩ := (HK r).1 h
 exact (HK _).2 ⟨h1, Nat.le_trans (List.length_filter_le p r.2) h2, fun x hx => h3 x (List.mem_filter.1 hx).1, h4.filter p⟩
theorem Hp {r : Rln} (h : G9 r = true) : Bk r.2 := by
 obtain ⟨h1, h2, h3, h4⟩ := (HK r).1 h
 exact ⟨by unfold lim; omega, fun x hx => by have := (h3 x hx).1; unfold lim; omega⟩
theorem N1 {B : (Int × Int -> Option Int) -> Int × Int -> Option Int} {rows : List Row} {row : Row} (hs : Srt rows) (hl : rows.length <= lim)
  (h1 : ∀ rec (lo hi m : Nat), lo < hi -> hi <= rows.length -> m = (lo + hi) / 2 -> ∀ hm : m < rows.length, B rec ((lo : Int), (hi : Int)) = cond (decide (Ej rows[m] row < 0)) (rec (((m + 1 : Nat) : Int), (hi : Int))) (rec ((lo : Int), (m : Int))))
  (h2 : ∀ rec (lo : Nat), B rec ((lo : Int), (lo : Int)) = some (lo : Int)) :
  ∃ k : Nat, k <= rows.length ∧ Ai B fz (0, (rows.length : Int)) = some (k : Int) ∧ (∀ i (hi : i < rows.length), i < k -> Ej rows[i] row < 0) ∧ ∀ i (hi : i < rows.length), k <= i -> ¬ Ej rows[i] row < 0 := by
 have key : ∀ d (lo hi : Nat), hi - lo <= d -> lo <= hi -> hi <= rows.length -> (∀ i (hi : i < rows.length), i < lo -> Ej rows[i] row < 0) -> (∀ i (hi' : i < rows.length), hi <= i -> ¬ Ej rows[i] row < 0) -> ∀ m, d < m ->
   ∃ k : Nat, k <= rows.length ∧ Ai B m ((lo : Int), (hi : Int)) = some (k : Int) ∧ (∀ i (hi : i < rows.length), i < k -> Ej rows[i] row < 0) ∧ ∀ i (hi : i < rows.length), k <= i -> ¬ Ej rows[i] row < 0 := by
  intro d
  induction d with
  | zero =>
   intro lo hi h3 h4 h5 h6 h7 m hm
   have : lo = hi := by omega
   subst this
   cases m with
   | zero => omega
   | succ m => exact ⟨lo, h5, h2 _ lo, h6, h7⟩
  | succ d ih =>
   intro lo hi h3 h4 h5 h6 h7 m hm
   cases m with
   | zero => omega
   | succ m =>
    rcases Nat.lt_or_ge lo hi with hlt | hge
    ·have hmid : (lo + hi) / 2 < rows.length := by omega
     show ∃ k : Nat, k <= rows.length ∧ B (Ai B m) _ = _ ∧ _
     rw [h1 _ lo hi _ hlt h5 rfl hmid]
     by_cases hc : Ej rows[(lo + hi) / 2] row < 0
     ·rw [decide_eq_true hc]
      refine ih ((lo + hi) / 2 + 1) hi (by omega) (by omega) h5 (fun i hi' hik => ?_) h7 m (by omega)
      rcases Nat.lt_or_ge i ((lo + hi) / 2) with h8 | h8
      ·exact HC (List.pairwise_iff_getElem.1 hs i _ hi' hmid h8) hc
      ·have : i = (lo + hi) / 2 := by omega
       subst this
       exact hc
     ·rw [decide_eq_false hc]
      refine ih lo ((lo + hi) / 2) (by omega) (by omega) (by omega) h6 (fun i hi' hik => ?_) m (by omega)
      rcases Nat.lt_or_ge ((lo + hi) / 2) i with h8 | h8
      ·intro h9
       exact hc (HC (List.pairwise_iff_getElem.1 hs _ i hmid hi' h8) h9)
      ·have : i = (lo + hi) / 2 := by omega
       subst this
       exact hc
    ·have : lo = hi := by omega
     subst this
     exact ⟨lo, h5, h2 _ lo, h6, h7⟩
 exact key rows.length 0 rows.length (by omega) (by omega) (Nat.le_refl _) (fun i _ h => by omega) (fun i h h' => by omega) fz (G0 hl)
theorem PR {rows : List Row} {row : Row} (hs : Srt rows) {k : Nat} (hk : k <= rows.length) (h1 : ∀ i (hi : i < rows.length), i < k -> Ej rows[i] row < 0) (h2 : ∀ i (hi : i < rows.length), k <= i -> ¬ Ej rows[i] row < 0) :
  (atB rows k fun x => Ej x row == 0) = rows.contains row := by
 rw [Bool.eq_iff_iff, List.contains_iff_mem]
 constructor
 ·intro h
  rcases Nat.lt_or_ge k rows.length with hlt | hge
  ·rw [AY hlt, beq_iff_eq] at h
   rw [<- KN h]
   exact List.getElem_mem hlt
  ·unfold atB at h; rw [List.getElem?_eq_none hge] at h; cases h
 ·intro h
  obtain ⟨j, hj, rfl⟩ := List.mem_iff_getElem.1 h
  have hkj : ¬ j < k := fun h3 => by have := h1 j hj h3; rw [LH] at this; omega
  have hlt : k < rows.length := by omega
  rw [AY hlt, beq_iff_eq]
  rcases Nat.lt_or_ge k j with h3 | h3
  ·exact absurd (List.pairwise_iff_getElem.1 hs k j hlt hj h3) (h2 k hlt (Nat.le_refl _))
  ·have : k = j := by omega
   subst this
   exact LH _
theorem ZW {r : Rln} {row : Row} (hs : Srt r.2) (hr : Bk r.2) : ∃ z, FH r row = some (z, r.2.contains row) := by
 obtain ⟨k, hk, hl, h1, h2⟩ := N1 (B := DI r row) (row := row) hs hr.1 (fun rec lo hi m h1 h2 h3 hm => by
  have := hr.1
  unfold lim at this
  simp only [DI]
  have hlh : (lo : Int) + (hi : Int) <= 2199023255552 := by omega
  have e1 : IntKind.i64.wrap ((lo : Int) + (hi : Int)) = ((lo + hi : Nat) : Int) := by rw [wrap_in ⟨by omega, by omega⟩]; omega
  have e2 : IntKind.i64.wrap (Int.tdiv ((lo + hi : Nat) : Int) 2) = ((m : Nat) : Int) := by
   have e3 : Int.tdiv ((lo + hi : Nat) : Int) 2 = (((lo + hi) / 2 : Nat) : Int) := by rw [Int.tdiv_eq_ediv_of_nonneg (by omega)]; omega
   rw [e3, <- h3, wrap_in ⟨by omega, by omega⟩]
  rw [decide_eq_true (by omega), e1, e2, Ak hm]
  simp only [cond_true, Ad]
  rw [Ma (hr.2 _ (List.getElem_mem hm))]
  simp only
  rw [wrap_in (by omega)]
  simp) (fun rec lo => by simp only [DI]; rw [Ay]; rfl)
 unfold FH
 rw [hl]
 simp only [Ad]
 have hp := PR (row := row) hs hk h1 h2
 rcases Nat.lt_or_ge k r.2.length with hlt | hge
 ·rw [AC hlt, Ak hlt]
  simp only [cond_true, Ma (hr.2 _ (List.getElem_mem hlt)), FC]
  rw [AY hlt] at hp
  exact ⟨_, by rw [hp]⟩
 ·rw [decide_eq_false (by omega)]
  have : (atB r.2 k fun x => Ej x row == 0) = false := by unfold atB; rw [List.getElem?_eq_none hge]
  rw [this] at hp
  exact ⟨_, by rw [<- hp]; rfl⟩
theorem YX {rows : List Row} {row : Row} (hs : Srt rows) (hr : Bk rows) : ∃ z, JA rows row = some (z, rows.contains row) := by
 obtain ⟨k, hk, hl, h1, h2⟩ := N1 (B := HG rows row) (row := row) hs hr.1 (fun rec lo hi m h1 h2 h3 hm => by
  have := hr.1
  unfold lim at this
  simp only [HG]
  have hlh : (lo : Int) + (hi : Int) <= 2199023255552 := by omega
  have e1 : IntKind.i64.wrap ((lo : Int) + (hi : Int)) = ((lo + hi : Nat) : Int) := by rw [wrap_in ⟨by omega, by omega⟩]; omega
  have e2 : IntKind.i64.wrap (Int.tdiv ((lo + hi : Nat) : Int) 2) = ((m : Nat) : Int) := by
   have e3 : Int.tdiv ((lo + hi : Nat) : Int) 2 = (((lo + hi) / 2 : Nat) : Int) := by rw [Int.tdiv_eq_ediv_of_nonneg (by omega)]; omega
   rw [e3, <- h3, wrap_in ⟨by omega, by omega⟩]
  rw [decide_eq_true (by omega), e1, e2, Ak hm]
  simp only [cond_true, Ad]
  rw [OB (hr.2 _ (List.getElem_mem hm))]
  simp only
  rw [wrap_in (by omega)]
  simp) (fun rec lo => by simp only [HG]; rw [Ay]; rfl)
 unfold JA
 rw [hl]
 simp only [Ad]
 have hp := PR (row := row) hs hk h1 h2
 rcases Nat.lt_or_ge k rows.length with hlt | hge
 ·rw [AC hlt, Ak hlt]
  simp only [cond_true, OB (hr.2 _ (List.getElem_mem hlt)), HH]
  rw [AY hlt] at hp
  exact ⟨_, by rw [hp]⟩
 ·rw [decide_eq_false (by omega)]
  have : (atB rows k fun x => Ej x row == 0) = false := by unfold atB; rw [List.getElem?_eq_none hge]
  rw [this] at hp
  exact ⟨_, by rw [<- hp]; rfl⟩
theorem Sf {r : Rln} {row : Row} (h : G9 r = true) : CX r row = some (r.2.contains row) := by
 obtain ⟨z, hz⟩ := YX (row := row) ((HK r).1 h).2.2.2 (Hp h)
 unfold CX
 rw [hz]
 simp only [Ad, M0 (Hp h), h, cond_true, En]
def MZ (a b : Rln) : Rln := (a.1, a.2.filter fun x => !b.2.contains x)
def Qh (a b : Rln) : Rln × Bool := cond (G9 a && (G9 b && (a.1 == b.1))) (MZ a b, true) ((0, []), false)
theorem Un {α : Type} {l : List α} {k : Nat} (hk : k < l.length) (p : α -> Bool) : (l.take (k + 1)).filter p = (l.take k).filter p ++ cond (p l[k]) [l[k]] [] := by
 rw [List.take_succ_eq_append_getElem hk, List.filter_append]
 cases h : p l[k] <;> simp [h]
theorem Nn {α : Type} {l : List α} {k : Nat} (hk : k < l.length) (hl : l.length <= lim) (p : α -> Bool) (x : α) : ((l.take k).filter p).length + [x].length <= lim := by
 have := List.length_filter_le p (l.take k)
 rw [List.length_take] at this
 simp only [List.length_singleton]
 omega
theorem LJ {α : Type} {a : List α} {B : (List α × Int -> Option (List α)) -> List α × Int -> Option (List α)} (p : α -> Bool) (hl : a.length <= lim)
  (h1 : ∀ k (hk : k < a.length) rec, B rec ((a.take k).filter p, (k : Int)) = rec ((a.take k).filter p ++ cond (p a[k]) [a[k]] [], ((k + 1 : Nat) : Int))) (h2 : ∀ rec y, B rec (y, (a.length : Int)) = some y) : Ai B fz ([], 0) = some (a.filter p) := by
 have := BJ (body := B) (out := a.filter p) (fun k => ((a.take k).filter p, (k : Int))) a.length (fun k hk rec => by rw [h1 k hk, Un hk]) (fun rec => by rw [h2, List.take_length]) fz (G0 hl)
 simpa using this
theorem VD {a b : Rln} (ha : Bk a.2) (hb : Bk b.2) : CF a b = some (Qh a b) := by
 unfold CF Qh
 simp only [Oj ha, Oj hb, Ad]
 cases hva : G9 a with
 | false => rfl
 | true =>
  cases hvb : G9 b with
  | false => rfl
  | true =>
   simp only [Bool.not_true, cond_false, Bool.true_and, bne]
   cases (a.1 == b.1) with
   | false => rfl
   | true =>
    simp only [Bool.not_true, cond_false, cond_true]
    rw [LJ (a := a.2) (fun x => !b.2.contains x) ha.1 (fun k hk rec => by
     obtain ⟨z, hz⟩ := ZW (row := a.2[k]) ((HK b).1 hvb).2.2.2 hb
     have h3 := ha.2 _ (List.getElem_mem hk)
     simp only [E5]
     rw [AC hk, Ak hk]
     simp only [cond_true, Ad, hz, E6, AH hk (Ax ha.1), List.nil_append]
     rw [Am (by simpa using h3), Am (Nn hk ha.1 _ _)]
     cases b.2.contains a.2[k] <;> simp) (fun rec y => by simp only [E5]; rw [Ay]; rfl)]
    rfl
theorem ic {a b : Rln} (ha : Bk a.2) (hb : Bk b.2) : Gs a b = some (Qh a b) := by
 unfold Gs Qh
 simp only [M0 ha, M0 hb, Ad]
 cases hva : G9 a with
 | false => rfl
 | true =>
  cases hvb : G9 b with
  | false => rfl
  | true =>
   simp only [Bool.not_true, cond_false, Bool.true_and, bne]
   cases (a.1 == b.1) with
   | false => rfl
   | true =>
    simp only [Bool.not_true, cond_false, cond_true]
    rw [LJ (a := a.2) (fun x => !b.2.contains x) ha.1 (fun k hk rec => by
     have h3 := ha.2 _ (List.getElem_mem hk)
     simp only [EZ]
     rw [AC hk, Ak hk]
     simp only [cond_true, Ad, Sf hvb, E0, AH hk (Ax ha.1), Jq h3]
     rw [Am (Nn hk ha.1 _ _)]
     cases b.2.contains a.2[k] <;> simp) (fun rec y => by simp only [EZ]; rw [Ay]; rfl)]
    rfl
def unR (a b : Rln) : Rln × Bool := cond (G9 a && (G9 b && (a.1 == b.1))) (nrB a.1 (a.2 ++ b.2)) ((0, []), false)
theorem eT {a b : Rln} (ha : G9 a = true) (hb : G9 b = true) : Bk (a.2 ++ b.2) := by
 have h1 := ((HK a).1 ha).2.1
 have h2 := ((HK b).1 hb).2.1
 refine ⟨by rw [List.length_append]; unfold lim; omega, fun x hx => ?_⟩
 rcases List.mem_append.1 hx with hx | hx
 ·exact (Hp ha).2 x hx
 ·exact (Hp hb).2 x hx
theorem lf {a b : Rln} (ha : Bk a.2) (hb : Bk b.2) : JK a b = some (unR a b) := by
 unfold JK unR
 simp only [Oj ha, Oj hb, Ad]
 cases hva : G9 a with
 | false => rfl
 | true =>
  cases hvb : G9 b with
  | false => rfl
  | true =>
   have h1 := ((HK a).1 hva).2.1
   have h2 := ((HK b).1 hvb).2.1
   simp only [Bool.not_true, cond_false, Bool.true_and, bne]
   cases (a.1 == b.1) with
   | false => rfl
   | true =>
    simp only [Bool.not_true, cond_false, cond_true, List.nil_append]
    rw [Am (by unfold lim; simp; omega), Am (by unfold lim; omega), eB (eT hva hvb)]
theorem kK {a b : Rln} (ha : Bk a.2) (hb : Bk b.2) : Jy a b = some (unR a b) := by
 unfold Jy unR
 simp only [M0 ha, M0 hb, Ad]
 cases hva : G9 a with
 | false => rfl
 | true =>
  cases hvb : G9 b with
  | false => rfl
  | true =>
   have h1 := ((HK a).1 hva).2.1
   have h2 := ((HK b).1 hvb).2.1
   simp only [Bool.not_true, cond_false, Bool.true_and, bne]
   cases (a.1 == b.1) with
   | false => rfl
   | true =>
    simp only [Bool.not_true, cond_false, cond_true, Ry ha]
    rw [Am (by unfold lim; omega), jW (eT hva hvb)]
abbrev Dlt := List UInt8 × Rln × Rln
def smD (x : Dlt) : Prop := x.1.length <= lim ∧ Bk x.2.1.2 ∧ Bk x.2.2.2
def V4 (d : List Tbl) (x : Dlt) : Bool := (Cz d x.1).2 && (G9 x.2.1 && (G9 x.2.2 && ((x.2.1.1 == (Cz d x.1).1.1) && (x.2.2.1 == (Cz d x.1).1.1))))
theorem UT {d : List Tbl} {nm : List UInt8} (h : (Cz d nm).2 = true) : G9 (Cz d nm).1 = true := by
 unfold Cz at *
 split at h
 ·rename_i hd
  rw [if_pos hd]
  cases hf : d.find? (fun t => t.1 == nm) with
  | none => rw [hf] at h; cases h
  | some t =>
   simp only
   have hm := List.mem_of_find?_eq_some hf
   unfold dbB at hd
   simp only [Bool.and_eq_true, Bool.not_eq_true'] at hd
   obtain ⟨i, hi, rfl⟩ := List.mem_iff_getElem.1 hm
   have := D6 hd.2 hi
   unfold KJ at this
   simp only [Bool.or_eq_false_iff, Bool.not_eq_false', decide_eq_false_iff_not] at this
   exact this.1.1.2
 ·cases h
theorem Nu {d : List Tbl} (h : Kb d) (nm : List UInt8) : Bk (Cz d nm).1.2 := by
 unfold Cz
 split
 ·cases hf : d.find? (fun t => t.1 == nm) with
  | none => exact ⟨by simp, fun r hr => by cases hr⟩
  | some t => exact (h.2 t (List.mem_of_find?_eq_some hf)).2
 ·exact ⟨by simp, fun r hr => by cases hr⟩
def Kt (d : List Tbl) (x : Dlt) : Dlt × Bool :=
 let r := (Cz d x.1).1
 cond (V4 d x) ((x.1, MZ x.2.1 r, (x.2.2.1, x.2.2.2.filter fun y => r.2.contains y && !x.2.1.2.contains y)), true) (([], (0, []), (0, [])), false)
section
variable {d : List Tbl} {x : Dlt}
theorem NU (h : V4 d x = true) : G9 (Cz d x.1).1 = true ∧ G9 x.2.1 = true ∧ G9 x.2.2 = true ∧ x.2.1.1 = (Cz d x.1).1.1 ∧ x.2.2.1 = (Cz d x.1).1.1 := by
 simp only [V4, Bool.and_eq_true, beq_iff_eq] at h
 exact ⟨UT h.1, h.2.1, h.2.2.1, h.2.2.2.1, h.2.2.2.2⟩
theorem em (h : Kb d) (hx : smD x) : Im d x = some (V4 d x) := by
 unfold Im
 simp only [QS h, Oj hx.2.1, Oj hx.2.2, Ad, DH, V4]
 cases (Cz d x.1).2 <;> cases G9 x.2.1 <;> cases G9 x.2.2 <;> cases (x.2.1.1 == (Cz d x.1).1.1) <;> rfl
theorem bt (h : Kb d) (hx : smD x) : Gw d x = some ((Cz d x.1).1, V4 d x) := by
 unfold Gw
 simp only [Sh h, M0 hx.2.1, M0 hx.2.2, Ad, DN, DO, V4]
 cases (Cz d x.1).2 <;> cases G9 x.2.1 <;> cases G9 x.2.2 <;> cases (x.2.1.1 == (Cz d x.1).1.1) <;> rfl
theorem ew (h : Kb d) (hx : smD x) : Ez d x = some (Kt d x) := by
 unfold Ez Kt
 rw [em h hx]
 simp only [Ad]
 cases hf : V4 d x with
 | false => rfl
 | true =>
  obtain ⟨f1, f2, f3, f4, f5⟩ := NU hf
  simp only [Bool.not_true, cond_false, cond_true, QS h]
  generalize (Cz d x.1).1 = r at f1 f4 f5
  have d1 : Qh x.2.1 r = (MZ x.2.1 r, true) := by unfold Qh; rw [f2, f1, f4]; simp
  have d2 : Qh x.2.2 x.2.1 = (MZ x.2.2 x.2.1, true) := by unfold Qh; rw [f3, f2, f5, f4]; simp
  have g1 : G9 (MZ x.2.2 x.2.1) = true := KT f3 _
  have d3 : Qh (MZ x.2.2 x.2.1) r = (MZ (MZ x.2.2 x.2.1) r, true) := by unfold Qh; rw [g1, f1]; simp [MZ, f5]
  have g2 : G9 (MZ (MZ x.2.2 x.2.1) r) = true := KT g1 _
  have d4 : Qh (MZ x.2.2 x.2.1) (MZ (MZ x.2.2 x.2.1) r) = (MZ (MZ x.2.2 x.2.1) (MZ (MZ x.2.2 x.2.1) r), true) := by unfold Qh; rw [g1, g2]; simp [MZ]
  rw [VD (Hp f2) (Hp f1), d1]
  simp only
  rw [VD (Hp f3) (Hp f2), d2]
  simp only
  rw [VD (Hp g1) (Hp f1), d3]
  simp only
  rw [VD (Hp g1) (Hp g2), d4]
  simp only
  have e : (MZ (MZ x.2.2 x.2.1) (MZ (MZ x.2.2 x.2.1) r)) = (x.2.2.1, x.2.2.2.filter fun y => r.2.contains y && !x.2.1.2.contains y) := by
   unfold MZ
   simp only [List.filter_filter]
   congr 1
   apply List.filter_congr
   intro y hy
   rw [Bool.eq_iff_iff]
   simp only [Bool.and_eq_true, Bool.not_eq_true', <- Bool.not_eq_true, List.contains_iff_mem, List.mem_filter]
   constructor
   ·rintro ⟨h1, h2⟩
    refine ⟨?_, h2⟩
    exact Classical.byContradiction fun h3 => h1 ⟨hy, h3, h2⟩
   ·rintro ⟨h1, h2⟩
    exact ⟨fun h3 => h3.2.1 h1, h2⟩
  rw [e]
theorem bw (h : Kb d) (hx : smD x) : Ep d x = some (Kt d x) := by
 unfold Ep Kt
 rw [bt h hx]
 simp only [Ad]
 cases hf : V4 d x with
 | false => rfl
 | true =>
  obtain ⟨f1, f2, f3, f4, f5⟩ := NU hf
  simp only [Bool.not_true, cond_false, cond_true]
  rw [LJ (a := x.2.1.2) (fun y => !(Cz d x.1).1.2.contains y) hx.2.1.1 (fun k hk rec => by
   have h3 := hx.2.1.2 _ (List.getElem_mem hk)
   simp only [C6]
   rw [AC hk, Ak hk]
   simp only [cond_true, Ad, Sf f1, C7, AH hk (Ax hx.2.1.1), Jq h3]
   rw [Am (Nn hk hx.2.1.1 _ _)]
   cases (Cz d x.1).1.2.contains x.2.1.2[k] <;> simp) (fun rec y => by simp only [C6]; rw [Ay]; rfl)]
  simp only
  rw [LJ (a := x.2.2.2) (fun y => (Cz d x.1).1.2.contains y && !x.2.1.2.contains y) hx.2.2.1 (fun k hk rec => by
   have h3 := hx.2.2.2 _ (List.getElem_mem hk)
   simp only [Cc]
   rw [AC hk, Ak hk]
   simp only [cond_true, Ad, Sf f1, Sf f2, C8, C9, AH hk (Ax hx.2.2.1), Jq h3]
   rw [Am (Nn hk hx.2.2.1 _ _)]
   cases (Cz d x.1).1.2.contains x.2.2.2[k] <;> cases x.2.1.2.contains x.2.2.2[k] <;> simp) (fun rec y => by simp only [Cc]; rw [Ay]; rfl)]
  simp only [MZ, f4, f5]
def Kh (d : List Tbl) (x : Dlt) : List Tbl × Bool :=
 let y := Kt d x
 cond (!y.2) (d, false) (let u := unR (Qh (Cz d x.1).1 y.1.2.2).1 y.1.2.1; cond (!u.2) (d, false) (setB d x.1 u.1))
theorem eR {a b : Rln} : Bk (unR a b).1.2 ∧ ((unR a b).2 = true -> G9 (unR a b).1 = true) := by
 unfold unR nrB
 cases (G9 a && (G9 b && (a.1 == b.1))) with
 | false => exact ⟨⟨by simp [lim], fun r hr => by cases hr⟩, fun h => by cases h⟩
 | true =>
  simp only [cond_true]
  cases AI (a.2 ++ b.2) fun _ x => Lu a.1 x with
  | true => exact ⟨⟨by simp [lim], fun r hr => by cases hr⟩, fun h => by cases h⟩
  | false =>
   simp only [cond_false]
   cases hr : G9 (a.1, sortB (a.2 ++ b.2)) with
   | false => exact ⟨⟨by simp [lim], fun r hr => by cases hr⟩, fun h => by cases h⟩
   | true => exact ⟨Hp hr, fun _ => hr⟩
theorem U5 (h : Kb d) (hx : smD x) : Bk (Kt d x).1.2.1.2 ∧ Bk (Kt d x).1.2.2.2 := by
 unfold Kt
 cases hf : V4 d x with
 | false => exact ⟨⟨by simp [lim], fun r hr => by cases hr⟩, ⟨by simp [lim], fun r hr => by cases hr⟩⟩
 | true =>
  obtain ⟨f1, f2, f3, f4, f5⟩ := NU hf
  exact ⟨Hp (KT f2 _), Hp (KT f3 _)⟩
theorem XD {a b : Rln} (ha : Bk a.2) : Bk (Qh a b).1.2 := by
 unfold Qh
 cases (G9 a && (G9 b && (a.1 == b.1))) with
 | false => exact ⟨by simp [lim], fun r hr => by cases hr⟩
 | true => exact ⟨Nat.le_trans (List.length_filter_le _ _) ha.1, fun y hy => ha.2 y (List.mem_filter.1 hy).1⟩
theorem jA (h : Kb d) (hd : d.length < lim) (hx : smD x) : GB d x = some (Kh d x) := by
 unfold GB Kh
 obtain ⟨n1, n2⟩ := U5 h hx
 rw [ew h hx]
 simp only [Ad, QS h, Oh h]
 cases (Kt d x).2 with
 | false => rfl
 | true =>
  simp only [Bool.not_true, cond_false]
  rw [VD (Nu h _) n2]
  simp only
  rw [lf (XD (Nu h _)) n1]
  simp only
  cases hu : (unR (Qh (Cz d x.1).1 (Kt d x).1.2.2).1 (Kt d x).1.2.1).2 with
  | false => rfl
  | true =>
   simp only [Bool.not_true, cond_false]
   rw [eE h hd hx.1 eR.1]
theorem hZ (h : Kb d) (hd : d.length < lim) (hx : smD x) : Gq d x = some (Kh d x) := by
 unfold Gq Kh
 obtain ⟨n1, n2⟩ := U5 h hx
 rw [bw h hx]
 simp only [Ad, Sh h, Mw h]
 cases (Kt d x).2 with
 | false => rfl
 | true =>
  simp only [Bool.not_true, cond_false]
  rw [ic (Nu h _) n2]
  simp only
  rw [kK (XD (Nu h _)) n1]
  simp only
  cases hu : (unR (Qh (Cz d x.1).1 (Kt d x).1.2.2).1 (Kt d x).1.2.1).2 with
  | false => rfl
  | true =>
   simp only [Bool.not_true, cond_false]
   rw [bD h hd hx.1 eR.1]
theorem Xv (h : (Kh d x).2 = true) : dbB (Kh d x).1 = true := by
 unfold Kh at *
 simp only at h ⊢
 cases h1 : (Kt d x).2 with
 | false => rw [h1] at h; cases h
 | true =>
  rw [h1] at h
  simp only [Bool.not_true, cond_false] at h ⊢
  cases hu : (unR (Qh (Cz d x.1).1 (Kt d x).1.2.2).1 (Kt d x).1.2.1).2 with
  | false => rw [hu] at h; cases h
  | true =>
   rw [hu] at h
   simp only [Bool.not_true, cond_false] at h ⊢
   exact (Z1 h).2.1
end
end Go.Proofs.YtlknpohjnpnodaaGreat
