/-
 When numbers, rows, relations, names, databases and histories are valid: the reference and the program agree. On the printed functions; conditions: lengths.
-/
import Derived.Test.YtlknpohjnpnodaaGreatKb
import Derived.Test.YtlknpohjnpnodaaGreatGenSC1
namespace Go.Proofs.YtlknpohjnpnodaaGreat
open Go.RowKit
set_option linter.unusedSimpArgs false
theorem OO {B : (Int -> Option (Sum Unit Bool)) -> Int -> Option (Sum Unit Bool)} {n : Nat} (bad : Nat -> Bool) {M : Nat} (hn : n < M) (h1 : ∀ k, k < n -> ∀ rec, B rec (k : Int) = cond (bad k) (some (.inr false)) (rec ((k + 1 : Nat) : Int))) (h2 : ∀ rec, B rec (n : Int) = some (.inl ())) :
  Ai B M 0 = some (cond ((List.range n).any bad) (.inr false) (.inl ())) := by
 have key : ∀ d k, k + d = n -> (∀ j, j < k -> bad j = false) -> ∀ m, d < m -> Ai B m (k : Int) = some (cond ((List.range n).any bad) (.inr false) (.inl ())) := by
  intro d
  induction d with
  | zero =>
   intro k hk hb m hm
   cases m with
   | zero => omega
   | succ m =>
    have hkn : k = n := by omega
    have : (List.range n).any bad = false := by
     rw [List.any_eq_false]
     intro x hx
     rw [hb x (by have := List.mem_range.1 hx; omega)]; simp
    show B (Ai B m) (k : Int) = _
    rw [hkn, h2, this]; rfl
  | succ d ih =>
   intro k hk hb m hm
   cases m with
   | zero => omega
   | succ m =>
    show B (Ai B m) (k : Int) = _
    rw [h1 k (by omega)]
    cases hbk : bad k with
    | true =>
     have : (List.range n).any bad = true := by rw [List.any_eq_true]; exact ⟨k, List.mem_range.2 (by omega), hbk⟩
     rw [this]; rfl
    | false =>
     exact ih (k + 1) (by omega) (fun j hj => by
      rcases Nat.lt_or_ge j k with h | h
      ·exact hb j h
      ·rw [show j = k by omega]; exact hbk) m (by omega)
 have := key n 0 (by omega) (fun j hj => absurd hj (by omega)) M hn
 simpa using this
theorem Cx {B : (Int -> Option (Sum Unit Bool)) -> Int -> Option (Sum Unit Bool)} {n : Nat} (bad : Nat -> Bool) (hn : n <= lim) (h1 : ∀ k, k < n -> ∀ rec, B rec (k : Int) = cond (bad k) (some (.inr false)) (rec ((k + 1 : Nat) : Int))) (h2 : ∀ rec, B rec (n : Int) = some (.inl ())) :
  Ai B fz 0 = some (cond ((List.range n).any bad) (.inr false) (.inl ())) := OO bad (G0 hn) h1 h2
theorem AC {k n : Nat} (h : k < n) : decide ((k : Int) < (n : Int)) = true := decide_eq_true (by omega)
theorem Ay (n : Nat) : decide ((n : Int) < (n : Int)) = false := decide_eq_false (by omega)
def atB {α : Type} (l : List α) (k : Nat) (f : α -> Bool) : Bool := match l[k]? with
 | some e => f e
 | none => false
theorem AY {α : Type} {l : List α} {k : Nat} (h : k < l.length) (f : α -> Bool) : atB l k f = f l[k] := by unfold atB; rw [List.getElem?_eq_getElem h]
def AI {α : Type} (l : List α) (f : Nat -> α -> Bool) : Bool := (List.range l.length).any fun k => atB l k (f k)
def btw (x lo hi : Int) : Bool := decide (lo <= x) && decide (x <= hi)
theorem Kz (x lo hi : Int) : Dh x lo hi = some (btw x lo hi) := by
 unfold Dh Ik btw
 cases decide (lo <= x) <;> rfl
theorem IH (x lo hi : Int) : Cp x lo hi = some (btw x lo hi) := by
 unfold Cp G8 btw
 cases decide (lo <= x) <;> rfl
def MQ (l : List Int) : Bool := !AI l fun _ e => !btw e 0 99
theorem ZR {l : List Int} (h : l.length <= lim) : Cq l = some (MQ l) := by
 unfold Cq MQ AI
 rw [Cx (fun k => atB l k fun e => !btw e 0 99) h (fun k hk rec => by
  unfold EK
  rw [AC hk, Ak hk, AH hk (Ax h), AY hk]
  simp only [cond_true, Ad, Kz]) (fun rec => by unfold EK; rw [Ay]; rfl)]
 cases (List.range l.length).any fun k => atB l k fun e => !btw e 0 99 <;> rfl
theorem bq {l : List Int} (h : l.length <= lim) : Di l = some (MQ l) := by
 unfold Di MQ AI
 rw [Cx (fun k => atB l k fun e => !btw e 0 99) h (fun k hk rec => by
  unfold EF
  rw [AC hk, Ak hk, AH hk (Ax h), AY hk]
  simp only [cond_true, Ad, IH]) (fun rec => by unfold EF; rw [Ay]; rfl)]
 cases (List.range l.length).any fun k => atB l k fun e => !btw e 0 99 <;> rfl
def Ej : List Int -> List Int -> Int
 | [], [] => 0
 | [], _ :: _ => -1
 | _ :: _, [] => 1
 | x :: xs, y :: ys => if x < y then -1 else if y < x then 1 else Ej xs ys
theorem R1 {B : (Int -> Option (Sum Unit Int)) -> Int -> Option (Sum Unit Int)} {a b : List Int} (ha : a.length <= lim)
  (h1 : ∀ k (hk : k < a.length) (hk' : k < b.length), ∀ rec, B rec (k : Int) = if a[k] < b[k] then some (.inr (-1)) else if b[k] < a[k] then some (.inr 1) else rec ((k + 1 : Nat) : Int))
  (h2 : ∀ k : Nat, ¬ (k < a.length ∧ k < b.length) -> ∀ rec, B rec (k : Int) = some (.inl ())) :
  ∃ o, Ai B fz 0 = some o ∧ ((∃ r, o = .inr r ∧ Ej a b = r) ∨ (o = .inl () ∧ Ej a b = if a.length < b.length then -1 else if b.length < a.length then 1 else 0)) := by
 have key : ∀ d k, k + d = a.length -> k <= b.length -> Ej a b = Ej (a.drop k) (b.drop k) -> ∀ m, d < m -> ∃ o, Ai B m (k : Int) = some o ∧ ((∃ r, o = .inr r ∧ Ej a b = r) ∨ (o = .inl () ∧ Ej a b = if a.length < b.length then -1 else if b.length < a.length then 1 else 0)) := by
  intro d
  induction d with
  | zero =>
   intro k hk hkb hc m hm
   cases m with
   | zero => omega
   | succ m =>
    refine ⟨.inl (), h2 k (by omega) _, .inr ⟨rfl, ?_⟩⟩
    rw [hc, List.drop_of_length_le (by omega : a.length <= k)]
    rcases Nat.lt_or_ge k b.length with h | h
    ·rw [List.drop_eq_getElem_cons h, if_pos (by omega)]; rfl
    ·rw [List.drop_of_length_le h, if_neg (by omega), if_neg (by omega)]; rfl
  | succ d ih =>
   intro k hk hkb hc m hm
   cases m with
   | zero => omega
   | succ m =>
    have hka : k < a.length := by omega
    rcases Nat.lt_or_ge k b.length with h | h
    ·have e1 := h1 k hka h (Ai B m)
     rw [List.drop_eq_getElem_cons hka, List.drop_eq_getElem_cons h, Ej] at hc
     by_cases q1 : a[k] < b[k]
     ·rw [if_pos q1] at e1 hc; exact ⟨_, e1, .inl ⟨_, rfl, hc⟩⟩
     ·rw [if_neg q1] at e1 hc
      by_cases q2 : b[k] < a[k]
      ·rw [if_pos q2] at e1 hc; exact ⟨_, e1, .inl ⟨_, rfl, hc⟩⟩
      ·rw [if_neg q2] at e1 hc
       obtain ⟨o, e2, p⟩ := ih (k + 1) (by omega) (by omega) hc m (by omega)
       exact ⟨o, e1.trans e2, p⟩
    ·refine ⟨.inl (), h2 k (by omega) _, .inr ⟨rfl, ?_⟩⟩
     rw [hc, List.drop_eq_getElem_cons hka, List.drop_of_length_le h, if_neg (by omega), if_pos (by omega)]; rfl
 exact key a.length 0 (by omega) (by omega) (by simp) fz (G0 ha)
theorem Ma {a b : List Int} (ha : a.length <= lim) : A9 a b = some (Ej a b) := by
 unfold A9
 obtain ⟨o, e, p⟩ := R1 (B := Ev a b) ha (fun k hk hk' rec => by
   unfold Ev
   rw [AC hk, AC hk', Ak hk, Ak hk', AH hk (Ax ha)]
   simp only [cond_true, Ad]
   by_cases q1 : a[k] < b[k]
   ·rw [decide_eq_true q1, if_pos q1]; rfl
   ·rw [decide_eq_false q1, if_neg q1]
    by_cases q2 : b[k] < a[k]
    ·rw [decide_eq_true q2, if_pos q2]; rfl
    ·rw [decide_eq_false q2, if_neg q2]; rfl) (fun k hk rec => by
   unfold Ev
   by_cases q : k < a.length
   ·rw [AC q, decide_eq_false (by omega : ¬ (k : Int) < (b.length : Int))]; rfl
   ·rw [decide_eq_false (by omega : ¬ (k : Int) < (a.length : Int))]; rfl)
 rw [e]
 rcases p with ⟨r, rfl, hr⟩ | ⟨rfl, hr⟩
 ·rw [hr]; rfl
 ·simp only [Ad]
  rw [hr]
  by_cases q1 : a.length < b.length
  ·rw [if_pos q1, decide_eq_true (by omega)]; rfl
  ·rw [if_neg q1, decide_eq_false (by omega)]
   by_cases q2 : b.length < a.length
   ·rw [if_pos q2, decide_eq_true (by omega)]; rfl
   ·rw [if_neg q2, decide_eq_false (by omega)]; rfl
theorem XQ (x y : Int) : ET x y = some (if x < y then -1 else if y < x then 1 else 0) := by
 unfold ET
 by_cases q1 : x < y
 ·rw [decide_eq_true q1, if_pos q1]; rfl
 ·rw [decide_eq_false q1, if_neg q1]
  by_cases q2 : y < x
  ·rw [decide_eq_true q2, if_pos q2]; rfl
  ·rw [decide_eq_false q2, if_neg q2]; rfl
theorem OB {a b : List Int} (ha : a.length <= lim) : Bg a b = some (Ej a b) := by
 unfold Bg
 obtain ⟨o, e, p⟩ := R1 (B := Em a b) ha (fun k hk hk' rec => by
   unfold Em
   rw [AC hk, AC hk', Ak hk, Ak hk', AH hk (Ax ha)]
   simp only [cond_true, Ad, XQ]
   by_cases q1 : a[k] < b[k]
   ·have : (a[k] != b[k]) = true := by simp; omega
    simp only [this, if_pos q1, cond_true]
   ·by_cases q2 : b[k] < a[k]
    ·have : (a[k] != b[k]) = true := by simp; omega
     simp only [this, if_neg q1, if_pos q2, cond_true]
    ·have : (a[k] != b[k]) = false := by simp; omega
     simp only [this, if_neg q1, if_neg q2, cond_false]) (fun k hk rec => by
   unfold Em
   by_cases q : k < a.length
   ·rw [AC q, decide_eq_false (by omega : ¬ (k : Int) < (b.length : Int))]; rfl
   ·rw [decide_eq_false (by omega : ¬ (k : Int) < (a.length : Int))]; rfl)
 rw [e]
 rcases p with ⟨r, rfl, hr⟩ | ⟨rfl, hr⟩
 ·rw [hr]; rfl
 ·simp only [Ad, XQ]
  rw [hr]
  by_cases q1 : a.length < b.length
  ·rw [if_pos q1, if_pos (by omega)]
  ·rw [if_neg q1, if_neg (by omega)]
   by_cases q2 : b.length < a.length
   ·rw [if_pos q2, if_pos (by omega)]
   ·rw [if_neg q2, if_neg (by omega)]
def J9 (arity : Int) (rows : List (List Int)) (k : Nat) (r : List Int) : Bool := ((r.length : Int) != arity) || !MQ r || (decide (0 < k) && atB rows (k - 1) fun q => decide (0 <= Ej q r))
def G9 (r : Int × List (List Int)) : Bool := btw r.1 0 5 && (!decide (4000 < (r.2.length : Int)) && !AI r.2 (J9 r.1 r.2))
theorem Q7 {k n : Nat} (h : k < n) (h0 : 0 < k) (hn : n <= maxLen) : IntKind.i64.wrap ((k : Int) - 1) = ((k - 1 : Nat) : Int) := by
 rw [wrap_in (by unfold maxLen at hn; omega)]; omega
def Bk (l : List (List Int)) : Prop := l.length <= lim ∧ ∀ r ∈ l, r.length <= lim
theorem Oj {r : Int × List (List Int)} (h : Bk r.2) : AG r = some (G9 r) := by
 unfold AG G9 AI
 simp only [Kz, Ad]
 cases btw r.1 0 5 with
 | false => rfl
 | true =>
  cases decide (4000 < (r.2.length : Int)) with
  | true => rfl
  | false =>
   simp only [Bool.not_true, Bool.not_false, cond_false, Bool.true_and]
   rw [Cx (fun k => atB r.2 k (J9 r.1 r.2 k)) h.1 (fun k hk rec => by
    have hr := h.2 _ (List.getElem_mem hk)
    unfold CI Bq
    rw [AC hk, Ak hk, AH hk (Ax h.1), AY hk]
    simp only [cond_true, Ad, ZR hr, J9]
    cases h1 : ((r.2[k].length : Int) != r.1) with
    | true => rfl
    | false =>
     cases h2 : MQ r.2[k] with
     | false => rfl
     | true =>
      by_cases h0 : 0 < k
      ·have hk' : k - 1 < r.2.length := by omega
       rw [Q7 hk h0 (Ax h.1), Ak hk', AY hk', decide_eq_true (by omega : (0 : Int) < (k : Int)), decide_eq_true h0]
       simp only [cond_true, cond_false, Bool.not_true, Bool.false_or, Bool.true_and, Ma (h.2 _ (List.getElem_mem hk'))]
      ·rw [decide_eq_false (by omega : ¬ (0 : Int) < (k : Int)), decide_eq_false h0]; rfl) (fun rec => by unfold CI; rw [Ay]; rfl)]
   cases (List.range r.2.length).any fun k => atB r.2 k (J9 r.1 r.2 k) <;> rfl
theorem M0 {r : Int × List (List Int)} (h : Bk r.2) : AF r = some (G9 r) := by
 unfold AF H1 G9 AI
 simp only [IH, Ad]
 cases btw r.1 0 5 with
 | false => rfl
 | true =>
  cases decide (4000 < (r.2.length : Int)) with
  | true => rfl
  | false =>
   simp only [Bool.not_true, Bool.not_false, cond_false, Bool.true_and]
   rw [Cx (fun k => atB r.2 k (J9 r.1 r.2 k)) h.1 (fun k hk rec => by
    have hr := h.2 _ (List.getElem_mem hk)
    unfold Fo Dq
    rw [AC hk, Ak hk, AH hk (Ax h.1), AY hk]
    simp only [cond_true, Ad, bq hr, J9]
    cases h1 : ((r.2[k].length : Int) != r.1) with
    | true => rfl
    | false =>
     cases h2 : MQ r.2[k] with
     | false => rfl
     | true =>
      by_cases h0 : 0 < k
      ·have hk' : k - 1 < r.2.length := by omega
       rw [Q7 hk h0 (Ax h.1), Ak hk', AY hk', decide_eq_true (by omega : (0 : Int) < (k : Int)), decide_eq_true h0]
       simp only [cond_true, cond_false, Bool.not_true, Bool.false_or, Bool.true_and, OB (h.2 _ (List.getElem_mem hk'))]
      ·rw [decide_eq_false (by omega : ¬ (0 : Int) < (k : Int)), decide_eq_false h0]; rfl) (fun rec => by unfold Fo; rw [Ay]; rfl)]
   cases (List.range r.2.length).any fun k => atB r.2 k (J9 r.1 r.2 k) <;> rfl
def nmB (s : List UInt8) : Bool := btw (s.length : Int) 1 4 && !AI s fun _ b => decide ((UInt8.toNat b : Int) < 97) || decide (122 < (UInt8.toNat b : Int))
theorem Yd {s : List UInt8} (h : s.length <= lim) : EW s = some (nmB s) := by
 unfold EW nmB AI
 rw [Cx (fun k => atB s k fun b => decide ((UInt8.toNat b : Int) < 97) || decide (122 < (UInt8.toNat b : Int))) h (fun k hk rec => by
  unfold FR
  rw [AC hk, Ak hk, AH hk (Ax h), AY hk]
  simp only [cond_true, Ad]
  cases decide ((UInt8.toNat s[k] : Int) < 97) <;> rfl) (fun rec => by unfold FR; rw [Ay]; rfl)]
 cases (List.range s.length).any fun k => atB s k fun b => decide ((UInt8.toNat b : Int) < 97) || decide (122 < (UInt8.toNat b : Int)) <;> simp [Ad, Kz]
theorem XS {s : List UInt8} (h : s.length <= lim) : EQ s = some (nmB s) := by
 unfold EQ H0 nmB AI btw
 by_cases h1 : (s.length : Int) < 1
 ·rw [decide_eq_true h1, decide_eq_false (by omega : ¬ (1 : Int) <= (s.length : Int))]; rfl
 ·rw [decide_eq_false h1, decide_eq_true (by omega : (1 : Int) <= (s.length : Int))]
  by_cases h2 : 4 < (s.length : Int)
  ·rw [decide_eq_true h2, decide_eq_false (by omega : ¬ (s.length : Int) <= 4)]; rfl
  ·rw [decide_eq_false h2, decide_eq_true (by omega : (s.length : Int) <= 4)]
   simp only [cond_false, Bool.and_self, Bool.true_and]
   rw [Cx (fun k => atB s k fun b => decide ((UInt8.toNat b : Int) < 97) || decide (122 < (UInt8.toNat b : Int))) h (fun k hk rec => by
    unfold GQ
    rw [AC hk, Ak hk, AH hk (Ax h), AY hk]
    simp only [cond_true, Ad]
    cases decide ((UInt8.toNat s[k] : Int) < 97) <;> rfl) (fun rec => by unfold GQ; rw [Ay]; rfl)]
   cases (List.range s.length).any fun k => atB s k fun b => decide ((UInt8.toNat b : Int) < 97) || decide (122 < (UInt8.toNat b : Int)) <;> rfl
abbrev Tbl := List UInt8 × (Int × List (List Int))
def KJ (d : List Tbl) (k : Nat) (t : Tbl) : Bool := !nmB t.1 || (decide (0 < k) && atB d (k - 1) fun q => !Op.bytesLess q.1 t.1) || !G9 t.2 || decide (16 < (t.2.2.length : Int)) || decide (t.2.1 < 1)
def dbB (d : List Tbl) : Bool := decide ((d.length : Int) <= 6) && !AI d (KJ d)
def Kb (d : List Tbl) : Prop := d.length <= lim ∧ ∀ t ∈ d, t.1.length <= lim ∧ Bk t.2.2
theorem ak {d : List Tbl} (h : Kb d) : Bf d = some (dbB d) := by
 unfold Bf dbB AI
 rw [Cx (fun k => atB d k (KJ d k)) h.1 (fun k hk rec => by
  have hr := h.2 _ (List.getElem_mem hk)
  unfold CH AR
  rw [AC hk, Ak hk, AH hk (Ax h.1), AY hk]
  simp only [cond_true, Ad, Yd hr.1, Oj hr.2, KJ]
  cases nmB d[k].1 with
  | false => rfl
  | true =>
   by_cases h0 : 0 < k
   ·have hk' : k - 1 < d.length := by omega
    rw [Q7 hk h0 (Ax h.1), Ak hk', AY hk', decide_eq_true (by omega : (0 : Int) < (k : Int)), decide_eq_true h0]
    simp only [cond_true, cond_false, Bool.not_true, Bool.false_or, Bool.true_and]
    cases Op.bytesLess d[k - 1].1 d[k].1 <;> cases G9 d[k].2 <;> cases decide (16 < (d[k].2.2.length : Int)) <;> rfl
   ·rw [decide_eq_false (by omega : ¬ (0 : Int) < (k : Int)), decide_eq_false h0]
    cases G9 d[k].2 <;> cases decide (16 < (d[k].2.2.length : Int)) <;> rfl) (fun rec => by unfold CH; rw [Ay]; rfl)]
 cases (List.range d.length).any fun k => atB d k (KJ d k) <;> simp [Ad]
theorem br {d : List Tbl} (h : Kb d) : Be d = some (dbB d) := by
 unfold Be dbB AI
 by_cases h6 : 6 < (d.length : Int)
 ·rw [decide_eq_true h6, decide_eq_false (by omega : ¬ (d.length : Int) <= 6)]; rfl
 rw [decide_eq_false h6, decide_eq_true (by omega : (d.length : Int) <= 6), cond_false, Bool.true_and]
 rw [Cx (fun k => atB d k (KJ d k)) h.1 (fun k hk rec => by
  have hr := h.2 _ (List.getElem_mem hk)
  unfold CC AQ
  rw [AC hk, Ak hk, AH hk (Ax h.1), AY hk]
  simp only [cond_true, Ad, XS hr.1, M0 hr.2, KJ]
  cases nmB d[k].1 with
  | false => rfl
  | true =>
   by_cases h0 : 0 < k
   ·have hk' : k - 1 < d.length := by omega
    rw [Q7 hk h0 (Ax h.1), Ak hk', AY hk', decide_eq_true (by omega : (0 : Int) < (k : Int)), decide_eq_true h0]
    simp only [cond_true, cond_false, Bool.not_true, Bool.false_or, Bool.true_and]
    cases Op.bytesLess d[k - 1].1 d[k].1 <;> cases G9 d[k].2 <;> cases decide (16 < (d[k].2.2.length : Int)) <;> cases decide (d[k].2.1 < 1) <;> rfl
   ·rw [decide_eq_false (by omega : ¬ (0 : Int) < (k : Int)), decide_eq_false h0]
    cases G9 d[k].2 <;> cases decide (16 < (d[k].2.2.length : Int)) <;> cases decide (d[k].2.1 < 1) <;> rfl) (fun rec => by unfold CC; rw [Ay]; rfl)]
 cases (List.range d.length).any fun k => atB d k (KJ d k) <;> rfl
def Hw (x : Int × List (List Tbl)) : Prop := x.2.length <= lim ∧ ∀ d ∈ x.2, Kb d
def GZ (x : Int × List (List Tbl)) : Bool := !AI x.2 (fun _ d => !dbB d) && (btw (x.2.length : Int) 1 6 && btw x.1 1 (IntKind.i64.wrap (IntKind.i64.wrap (99 - (x.2.length : Int)) + 1)))
theorem SU {x : Int × List (List Tbl)} (h : Hw x) : BN x = some (GZ x) := by
 unfold BN Df GZ AI
 rw [Cx (fun k => atB x.2 k fun d => !dbB d) h.1 (fun k hk rec => by
  unfold EN
  rw [AC hk, Ak hk, AH hk (Ax h.1), AY hk]
  simp only [cond_true, Ad, ak (h.2 _ (List.getElem_mem hk))]) (fun rec => by unfold EN; rw [Ay]; rfl)]
 cases (List.range x.2.length).any fun k => atB x.2 k fun d => !dbB d <;> simp [Ad, Kz]
 cases btw (x.2.length : Int) 1 6 <;> simp
theorem Sg {x : Int × List (List Tbl)} (h : Hw x) : BL x = some (GZ x) := by
 unfold BL GZ AI
 simp only [IH, Ad]
 rw [Cx (fun k => atB x.2 k fun d => !dbB d) h.1 (fun k hk rec => by
  unfold EG
  rw [AC hk, Ak hk, AH hk (Ax h.1), AY hk]
  simp only [cond_true, Ad, br (h.2 _ (List.getElem_mem hk))]) (fun rec => by unfold EG; rw [Ay]; rfl)]
 cases btw (x.2.length : Int) 1 6 <;> cases btw x.1 1 (IntKind.i64.wrap (IntKind.i64.wrap (99 - (x.2.length : Int)) + 1)) <;> cases (List.range x.2.length).any fun k => atB x.2 k fun d => !dbB d <;> rfl
end Go.Proofs.YtlknpohjnpnodaaGreat
