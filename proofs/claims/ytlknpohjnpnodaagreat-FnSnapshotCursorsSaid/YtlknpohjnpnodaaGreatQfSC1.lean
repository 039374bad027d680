/-
 When a query fits a database, when an order is valid, copies of queries: the reference and the program agree. On the printed functions; conditions: lengths.
-/
import Derived.Test.YtlknpohjnpnodaaGreatQuSC1
namespace Go.Proofs.YtlknpohjnpnodaaGreat
open Go.RowKit
set_option linter.unusedVariables false
set_option linter.unusedSimpArgs false
def Gp (d : List Tbl) (a : Atm) : Bool := (Cz d a.1).2 && ((Cz d a.1).1.1 == (a.2.length : Int))
def J0 (d : List Tbl) (q : Qry) : Bool := LD q && (dbB d && !AI q.2.1 fun _ a => !Gp d a)
theorem Yf {d : List Tbl} {q : Qry} (h : Kb d) (hq : smQ q) : Fu d q = some (J0 d q) := by
 unfold Fu J0 AI
 rw [Cx (fun k => atB q.2.1 k fun a => !Gp d a) hq.1 (fun k hk rec => by
  unfold Gl
  rw [AC hk, Ak hk, AH hk (Ax hq.1), AY hk]
  simp only [cond_true, Ad, QS h, Gp]
  cases (Cz d q.2.1[k].1).2 with
  | false => rfl
  | true =>
   simp only [Bool.not_true, cond_false, Bool.true_and, bne]) (fun rec => by unfold Gl; rw [Ay]; rfl)]
 simp only [Oi hq, ak h, Ad, E8]
 cases (List.range q.2.1.length).any fun k => atB q.2.1 k fun a => !Gp d a <;> cases LD q <;> cases dbB d <;> rfl
theorem bz {d : List Tbl} {q : Qry} (h : Kb d) (hq : smQ q) : Gt d q = some (J0 d q) := by
 unfold Gt J0 AI
 simp only [UG hq, br h, Ad]
 rw [Cx (fun k => atB q.2.1 k fun a => !Gp d a) hq.1 (fun k hk rec => by
  unfold Gg
  rw [AC hk, Ak hk, AH hk (Ax hq.1), AY hk]
  simp only [cond_true, Ad, Sh h, Gp]
  cases (Cz d q.2.1[k].1).2 with
  | false => rfl
  | true =>
   simp only [Bool.not_true, cond_false, Bool.true_and, bne]) (fun rec => by unfold Gg; rw [Ay]; rfl)]
 cases (List.range q.2.1.length).any fun k => atB q.2.1 k fun a => !Gp d a <;> cases LD q <;> cases dbB d <;> rfl
theorem Ye {l : List Int} (h : l.length <= lim) : DT l = some (!AI l (F0 (l.length : Int) l) && decide ((l.length : Int) <= 5)) := by
 unfold DT AI
 rw [Cx (fun k => atB l k (F0 (l.length : Int) l k)) h (fun k hk rec => by
  unfold E7
  rw [AC hk, Ak hk, AH hk (Ax h), AY hk]
  simp only [cond_true, Ad, Kz]
  rw [Am (by omega), Ny]
  simp only [O4 (l := l.take k) (by rw [List.length_take]; omega), Ky, F0]
  cases btw l[k] 0 (IntKind.i64.wrap ((l.length : Int) - 1)) <;> rfl) (fun rec => by unfold E7; rw [Ay]; rfl)]
 cases (List.range l.length).any fun k => atB l k (F0 (l.length : Int) l k) <;> simp [Ad]
def OF (q : Qry) (o : List Int) : Bool := LD q && (((o.length : Int) == q.1) && !AI o (F0 q.1 o))
theorem MK {q : Qry} (h : LD q = true) : 1 <= q.1 ∧ q.1 <= 5 := by
 unfold LD btw at h
 simp only [Bool.and_eq_true, decide_eq_true_eq] at h
 exact h.1
theorem VE {q : Qry} {o : List Int} (hq : smQ q) (ho : o.length <= lim) : Eg q o = some (OF q o) := by
 unfold Eg CT OF
 simp only [Oi hq, Ye ho, Ad]
 cases hv : LD q with
 | false => rfl
 | true =>
  have hn := MK hv
  cases hl : ((o.length : Int) == q.1) with
  | false => rfl
  | true =>
   have hl : (o.length : Int) = q.1 := by simpa using hl
   rw [hl, decide_eq_true hn.2]
   simp
theorem YW {q : Qry} {o : List Int} (hq : smQ q) (ho : o.length <= lim) : Fm q o = some (OF q o) := by
 unfold Fm CN OF
 simp only [UG hq, YZ ho, Ad]
 cases LD q with
 | false => rfl
 | true => cases ((o.length : Int) == q.1) <;> rfl
theorem VC {q : Qry} (h : smQ q) : HY q = some q := by
 unfold HY
 rw [Am (by simpa using h.2.2), Gj (a := q.2.1) (h := id) h.1 (fun k hk rec => by
  have hr := (h.2.1 _ (List.getElem_mem hk)).2
  unfold H6
  simp only
  rw [AC hk, Ak hk, AH hk (Ax h.1)]
  simp only [cond_true, Ad]
  rw [Am (by simpa using hr), Am (by simp only [List.length_map, List.length_take, List.length_singleton]; have := h.1; omega)]
  rfl) (fun rec y => by unfold H6; simp only; rw [Ay]; rfl)]
 simp [Ad]
theorem YT {q : Qry} (h : smQ q) : G5 q = some q := by
 unfold G5
 rw [Jq h.2.2, Gj (a := q.2.1) (h := id) h.1 (fun k hk rec => by
  have hr := (h.2.1 _ (List.getElem_mem hk)).2
  unfold GP
  simp only
  rw [AC hk, Ak hk, AH hk (Ax h.1)]
  simp only [cond_true, Ad, Jq hr]
  rw [Am (by simp only [List.length_map, List.length_take, List.length_singleton]; have := h.1; omega)]
  rfl) (fun rec y => by unfold GP; simp only; rw [Ay]; rfl)]
 simp [Ad]
end Go.Proofs.YtlknpohjnpnodaaGreat
