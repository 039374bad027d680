/-
 When numbers, rows, relations, names, databases and histories are valid: the reference and the program agree. On the printed functions; conditions: lengths.
-/
import Derived.Test.YtkclaipnejgloaaGreatDoorKb
import Derived.Test.YtkclaipnejgloaaGreatDoorGenIF1
namespace Go.Proofs.YtkclaipnejgloaaGreatDoor
open Go.RowKit
set_option linter.unusedSimpArgs false
theorem O3 {B : (Int -> Option (Sum Unit Bool)) -> Int -> Option (Sum Unit Bool)} {n : Nat} (bad : Nat -> Bool) {M : Nat} (hn : n < M) (h1 : ∀ k,k < n -> ∀ rec,B rec (k : Int) = cond (bad k) (some (.inr false)) (rec ((k + 1 : Nat) : Int))) (h2 : ∀ rec,B rec (n : Int) = some (.inl ())) :
  Ah B M 0 = some (cond ((List.range n).any bad) (.inr false) (.inl ())):=by
 have key : ∀ d k,k + d = n -> (∀ j,j < k -> bad j = false) -> ∀ m,d < m -> Ah B m (k : Int) = some (cond ((List.range n).any bad) (.inr false) (.inl ())):=by
  intro d
  induction d with
  | zero =>
   intro k hk hb m hm
   cases m with
   | zero => omega
   | succ m =>
    have hkn : k = n:=by omega
    have : (List.range n).any bad = false:=by
     rw [List.any_eq_false]
     intro x hx
     rw [hb x (by have:=List.mem_range.1 hx; omega)]; simp
    show B (Ah B m) (k : Int) = _
    rw [hkn,h2,this]; rfl
  | succ d ih =>
   intro k hk hb m hm
   cases m with
   | zero => omega
   | succ m =>
    show B (Ah B m) (k : Int) = _
    rw [h1 k (by omega)]
    cases hbk : bad k with
    | true =>
     have : (List.range n).any bad = true:=by rw [List.any_eq_true]; exact ⟨k,List.mem_range.2 (by omega),hbk⟩
     rw [this]; rfl
    | false =>
     exact ih (k + 1) (by omega) (fun j hj => by
      rcases Nat.lt_or_ge j k with h | h
      ·exact hb j h
      ·rw [show j = k by omega]; exact hbk) m (by omega)
 have:=key n 0 (by omega) (fun j hj => absurd hj (by omega)) M hn
 simpa using this
theorem Bh {B : (Int -> Option (Sum Unit Bool)) -> Int -> Option (Sum Unit Bool)} {n : Nat} (bad : Nat -> Bool) (hn : n <= lim) (h1 : ∀ k,k < n -> ∀ rec,B rec (k : Int) = cond (bad k) (some (.inr false)) (rec ((k + 1 : Nat) : Int))) (h2 : ∀ rec,B rec (n : Int) = some (.inl ())) :
  Ah B fz 0 = some (cond ((List.range n).any bad) (.inr false) (.inl ())):=O3 bad (FZ hn) h1 h2
theorem Az {k n : Nat} (h : k < n) : decide ((k : Int) < (n : Int)) = true:=decide_eq_true (by omega)
theorem Ax (n : Nat) : decide ((n : Int) < (n : Int)) = false:=decide_eq_false (by omega)
def atB {α : Type} (l : List α) (k : Nat) (f : α -> Bool) : Bool:=match l[k]? with
 | some e => f e
 | none => false
theorem AN {α : Type} {l : List α} {k : Nat} (h : k < l.length) (f : α -> Bool) : atB l k f = f l[k]:=by unfold atB; rw [List.getElem?_eq_getElem h]
def Ay {α : Type} (l : List α) (f : Nat -> α -> Bool) : Bool:=(List.range l.length).any fun k => atB l k (f k)
def btw (x lo hi : Int) : Bool:=decide (lo <= x) && decide (x <= hi)
theorem H4 (x lo hi : Int) : BN x lo hi = some (btw x lo hi):=by
 unfold BN H9 btw
 cases decide (lo <= x) <;> rfl
theorem Fb (x lo hi : Int) : A2 x lo hi = some (btw x lo hi):=by
 unfold A2 GS btw
 cases decide (lo <= x) <;> rfl
def MV (l : List Int) : Bool := !Ay l fun _ e => !btw e 0 99
theorem dE {l : List Int} (h : l.length <= lim) : Dn l = some (MV l):=by
 unfold Dn MV Ay
 rw [Bh (fun k => atB l k fun e => !btw e 0 99) h (fun k hk rec => by
  unfold EJ
  rw [Az hk,Ai hk,AF hk (Au h),AN hk]
  simp only [cond_true,Ad,H4]) (fun rec => by unfold EJ; rw [Ax]; rfl)]
 cases (List.range l.length).any fun k => atB l k fun e => !btw e 0 99 <;> rfl
theorem bc {l : List Int} (h : l.length <= lim) : Dg l = some (MV l):=by
 unfold Dg MV Ay
 rw [Bh (fun k => atB l k fun e => !btw e 0 99) h (fun k hk rec => by
  unfold EF
  rw [Az hk,Ai hk,AF hk (Au h),AN hk]
  simp only [cond_true,Ad,Fb]) (fun rec => by unfold EF; rw [Ax]; rfl)]
 cases (List.range l.length).any fun k => atB l k fun e => !btw e 0 99 <;> rfl
def F8 : List Int -> List Int -> Int
 | [],[] => 0
 | [],_ :: _ => -1
 | _ :: _,[] => 1
 | x :: xs,y :: ys => if x < y then -1 else if y < x then 1 else F8 xs ys
theorem Sv {B : (Int -> Option (Sum Unit Int)) -> Int -> Option (Sum Unit Int)} {a b : List Int} (ha : a.length <= lim)
  (h1 : ∀ k (hk : k < a.length) (hk' : k < b.length),∀ rec,B rec (k : Int) = if a[k] < b[k] then some (.inr (-1)) else if b[k] < a[k] then some (.inr 1) else rec ((k + 1 : Nat) : Int))
  (h2 : ∀ k : Nat,¬ (k < a.length ∧ k < b.length) -> ∀ rec,B rec (k : Int) = some (.inl ())) :
  ∃ o,Ah B fz 0 = some o ∧ ((∃ r,o = .inr r ∧ F8 a b = r) ∨ (o = .inl () ∧ F8 a b = if a.length < b.length then -1 else if b.length < a.length then 1 else 0)):=by
 have key : ∀ d k,k + d = a.length -> k <= b.length -> F8 a b = F8 (a.drop k) (b.drop k) -> ∀ m,d < m -> ∃ o,Ah B m (k : Int) = some o ∧ ((∃ r,o = .inr r ∧ F8 a b = r) ∨ (o = .inl () ∧ F8 a b = if a.length < b.length then -1 else if b.length < a.length then 1 else 0)):=by
  intro d
  induction d with
  | zero =>
   intro k hk hkb hc m hm
   cases m with
   | zero => omega
   | succ m =>
    refine ⟨.inl (),h2 k (by omega) _,.inr ⟨rfl,?_⟩⟩
    rw [hc,List.drop_of_length_le (by omega : a.length <= k)]
    rcases Nat.lt_or_ge k b.length with h | h
    ·rw [List.drop_eq_getElem_cons h,if_pos (by omega)]; rfl
    ·rw [List.drop_of_length_le h,if_neg (by omega),if_neg (by omega)]; rfl
  | succ d ih =>
   intro k hk hkb hc m hm
   cases m with
   | zero => omega
   | succ m =>
    have hka : k < a.length:=by omega
    rcases Nat.lt_or_ge k b.length with h | h
    ·have e1:=h1 k hka h (Ah B m)
     rw [List.drop_eq_getElem_cons hka,List.drop_eq_getElem_cons h,F8] at hc
     by_cases q1 : a[k] < b[k]
     ·rw [if_pos q1] at e1 hc; exact ⟨_,e1,.inl ⟨_,rfl,hc⟩⟩
     ·rw [if_neg q1] at e1 hc
      by_cases q2 : b[k] < a[k]
      ·rw [if_pos q2] at e1 hc; exact ⟨_,e1,.inl ⟨_,rfl,hc⟩⟩
      ·rw [if_neg q2] at e1 hc
       obtain ⟨o,e2,p⟩:=ih (k + 1) (by omega) (by omega) hc m (by omega)
       exact ⟨o,e1.trans e2,p⟩
    ·refine ⟨.inl (),h2 k (by omega) _,.inr ⟨rfl,?_⟩⟩
     rw [hc,List.drop_eq_getElem_cons hka,List.drop_of_length_le h,if_neg (by omega),if_pos (by omega)]; rfl
 exact key a.length 0 (by omega) (by omega) (by simp) fz (FZ ha)
theorem Qa {a b : List Int} (ha : a.length <= lim) : BA a b = some (F8 a b):=by
 unfold BA
 obtain ⟨o,e,p⟩:=Sv (B:=EC a b) ha (fun k hk hk' rec => by
   unfold EC
   rw [Az hk,Az hk',Ai hk,Ai hk',AF hk (Au ha)]
   simp only [cond_true,Ad]
   by_cases q1 : a[k] < b[k]
   ·rw [decide_eq_true q1,if_pos q1]; rfl
   ·rw [decide_eq_false q1,if_neg q1]
    by_cases q2 : b[k] < a[k]
    ·rw [decide_eq_true q2,if_pos q2]; rfl
    ·rw [decide_eq_false q2,if_neg q2]; rfl) (fun k hk rec => by
   unfold EC
   by_cases q : k < a.length
   ·rw [Az q,decide_eq_false (by omega : ¬ (k : Int) < (b.length : Int))]; rfl
   ·rw [decide_eq_false (by omega : ¬ (k : Int) < (a.length : Int))]; rfl)
 rw [e]
 rcases p with ⟨r,rfl,hr⟩ | ⟨rfl,hr⟩
 ·rw [hr]; rfl
 ·simp only [Ad]
  rw [hr]
  by_cases q1 : a.length < b.length
  ·rw [if_pos q1,decide_eq_true (by omega)]; rfl
  ·rw [if_neg q1,decide_eq_false (by omega)]
   by_cases q2 : b.length < a.length
   ·rw [if_pos q2,decide_eq_true (by omega)]; rfl
   ·rw [if_neg q2,decide_eq_false (by omega)]; rfl
theorem Pb (x y : Int) : Cd x y = some (if x < y then -1 else if y < x then 1 else 0):=by
 unfold Cd
 by_cases q1 : x < y
 ·rw [decide_eq_true q1,if_pos q1]; rfl
 ·rw [decide_eq_false q1,if_neg q1]
  by_cases q2 : y < x
  ·rw [decide_eq_true q2,if_pos q2]; rfl
  ·rw [decide_eq_false q2,if_neg q2]; rfl
theorem TI {a b : List Int} (ha : a.length <= lim) : CX a b = some (F8 a b):=by
 unfold CX
 obtain ⟨o,e,p⟩:=Sv (B:=Et a b) ha (fun k hk hk' rec => by
   unfold Et
   rw [Az hk,Az hk',Ai hk,Ai hk',AF hk (Au ha)]
   simp only [cond_true,Ad,Pb]
   by_cases q1 : a[k] < b[k]
   ·have : (a[k] != b[k]) = true:=by simp; omega
    simp only [this,if_pos q1,cond_true]
   ·by_cases q2 : b[k] < a[k]
    ·have : (a[k] != b[k]) = true:=by simp; omega
     simp only [this,if_neg q1,if_pos q2,cond_true]
    ·have : (a[k] != b[k]) = false:=by simp; omega
     simp only [this,if_neg q1,if_neg q2,cond_false]) (fun k hk rec => by
   unfold Et
   by_cases q : k < a.length
   ·rw [Az q,decide_eq_false (by omega : ¬ (k : Int) < (b.length : Int))]; rfl
   ·rw [decide_eq_false (by omega : ¬ (k : Int) < (a.length : Int))]; rfl)
 rw [e]
 rcases p with ⟨r,rfl,hr⟩ | ⟨rfl,hr⟩
 ·rw [hr]; rfl
 ·simp only [Ad,Pb]
  rw [hr]
  by_cases q1 : a.length < b.length
  ·rw [if_pos q1,if_pos (by omega)]
  ·rw [if_neg q1,if_neg (by omega)]
   by_cases q2 : b.length < a.length
   ·rw [if_pos q2,if_pos (by omega)]
   ·rw [if_neg q2,if_neg (by omega)]
def J9 (arity : Int) (rows : List (List Int)) (k : Nat) (r : List Int) : Bool:=((r.length : Int) != arity) || !MV r || (decide (0 < k) && atB rows (k - 1) fun q => decide (0 <= F8 q r))
def M5 (r : Int × List (List Int)) : Bool:=btw r.1 0 5 && (!decide (4000 < (r.2.length : Int)) && !Ay r.2 (J9 r.1 r.2))
theorem Ri {k n : Nat} (h : k < n) (h0 : 0 < k) (hn : n <= maxLen) : IntKind.i64.wrap ((k : Int) - 1) = ((k - 1 : Nat) : Int):=by
 rw [wrap_in (by unfold maxLen at hn; omega)]; omega
def Hi (l : List (List Int)) : Prop:=l.length <= lim ∧ ∀ r ∈ l,r.length <= lim
theorem Xi {r : Int × List (List Int)} (h : Hi r.2) : Ba r = some (M5 r):=by
 unfold Ba M5 Ay
 simp only [H4,Ad]
 cases btw r.1 0 5 with
 | false => rfl
 | true =>
  cases decide (4000 < (r.2.length : Int)) with
  | true => rfl
  | false =>
   simp only [Bool.not_true,Bool.not_false,cond_false,Bool.true_and]
   rw [Bh (fun k => atB r.2 k (J9 r.1 r.2 k)) h.1 (fun k hk rec => by
    have hr:=h.2 _ (List.getElem_mem hk)
    unfold CE Bg
    rw [Az hk,Ai hk,AF hk (Au h.1),AN hk]
    simp only [cond_true,Ad,dE hr,J9]
    cases h1 : ((r.2[k].length : Int) != r.1) with
    | true => rfl
    | false =>
     cases h2 : MV r.2[k] with
     | false => rfl
     | true =>
      by_cases h0 : 0 < k
      ·have hk' : k - 1 < r.2.length:=by omega
       rw [Ri hk h0 (Au h.1),Ai hk',AN hk',decide_eq_true (by omega : (0 : Int) < (k : Int)),decide_eq_true h0]
       simp only [cond_true,cond_false,Bool.not_true,Bool.false_or,Bool.true_and,Qa (h.2 _ (List.getElem_mem hk'))]
      ·rw [decide_eq_false (by omega : ¬ (0 : Int) < (k : Int)),decide_eq_false h0]; rfl) (fun rec => by unfold CE; rw [Ax]; rfl)]
   cases (List.range r.2.length).any fun k => atB r.2 k (J9 r.1 r.2 k) <;> rfl
theorem US {r : Int × List (List Int)} (h : Hi r.2) : A9 r = some (M5 r):=by
 unfold A9 HM M5 Ay
 simp only [Fb,Ad]
 cases btw r.1 0 5 with
 | false => rfl
 | true =>
  cases decide (4000 < (r.2.length : Int)) with
  | true => rfl
  | false =>
   simp only [Bool.not_true,Bool.not_false,cond_false,Bool.true_and]
   rw [Bh (fun k => atB r.2 k (J9 r.1 r.2 k)) h.1 (fun k hk rec => by
    have hr:=h.2 _ (List.getElem_mem hk)
    unfold Fo Dm
    rw [Az hk,Ai hk,AF hk (Au h.1),AN hk]
    simp only [cond_true,Ad,bc hr,J9]
    cases h1 : ((r.2[k].length : Int) != r.1) with
    | true => rfl
    | false =>
     cases h2 : MV r.2[k] with
     | false => rfl
     | true =>
      by_cases h0 : 0 < k
      ·have hk' : k - 1 < r.2.length:=by omega
       rw [Ri hk h0 (Au h.1),Ai hk',AN hk',decide_eq_true (by omega : (0 : Int) < (k : Int)),decide_eq_true h0]
       simp only [cond_true,cond_false,Bool.not_true,Bool.false_or,Bool.true_and,TI (h.2 _ (List.getElem_mem hk'))]
      ·rw [decide_eq_false (by omega : ¬ (0 : Int) < (k : Int)),decide_eq_false h0]; rfl) (fun rec => by unfold Fo; rw [Ax]; rfl)]
   cases (List.range r.2.length).any fun k => atB r.2 k (J9 r.1 r.2 k) <;> rfl
def nmB (s : List UInt8) : Bool:=btw (s.length : Int) 1 4 && !Ay s fun _ b => decide ((UInt8.toNat b : Int) < 97) || decide (122 < (UInt8.toNat b : Int))
theorem Yp {s : List UInt8} (h : s.length <= lim) : EP s = some (nmB s):=by
 unfold EP nmB Ay
 rw [Bh (fun k => atB s k fun b => decide ((UInt8.toNat b : Int) < 97) || decide (122 < (UInt8.toNat b : Int))) h (fun k hk rec => by
  unfold FI
  rw [Az hk,Ai hk,AF hk (Au h),AN hk]
  simp only [cond_true,Ad]
  cases decide ((UInt8.toNat s[k] : Int) < 97) <;> rfl) (fun rec => by unfold FI; rw [Ax]; rfl)]
 cases (List.range s.length).any fun k => atB s k fun b => decide ((UInt8.toNat b : Int) < 97) || decide (122 < (UInt8.toNat b : Int)) <;> simp [Ad,H4]
theorem XW {s : List UInt8} (h : s.length <= lim) : EN s = some (nmB s):=by
 unfold EN HL nmB Ay btw
 by_cases h1 : (s.length : Int) < 1
 ·rw [decide_eq_true h1,decide_eq_false (by omega : ¬ (1 : Int) <= (s.length : Int))]; rfl
 ·rw [decide_eq_false h1,decide_eq_true (by omega : (1 : Int) <= (s.length : Int))]
  by_cases h2 : 4 < (s.length : Int)
  ·rw [decide_eq_true h2,decide_eq_false (by omega : ¬ (s.length : Int) <= 4)]; rfl
  ·rw [decide_eq_false h2,decide_eq_true (by omega : (s.length : Int) <= 4)]
   simp only [cond_false,Bool.and_self,Bool.true_and]
   rw [Bh (fun k => atB s k fun b => decide ((UInt8.toNat b : Int) < 97) || decide (122 < (UInt8.toNat b : Int))) h (fun k hk rec => by
    unfold GD
    rw [Az hk,Ai hk,AF hk (Au h),AN hk]
    simp only [cond_true,Ad]
    cases decide ((UInt8.toNat s[k] : Int) < 97) <;> rfl) (fun rec => by unfold GD; rw [Ax]; rfl)]
   cases (List.range s.length).any fun k => atB s k fun b => decide ((UInt8.toNat b : Int) < 97) || decide (122 < (UInt8.toNat b : Int)) <;> rfl
abbrev Tbl:=List UInt8 × (Int × List (List Int))
def MR (d : List Tbl) (k : Nat) (t : Tbl) : Bool := !nmB t.1 || (decide (0 < k) && atB d (k - 1) fun q => !Op.bytesLess q.1 t.1) || !M5 t.2 || decide (16 < (t.2.2.length : Int)) || decide (t.2.1 < 1)
def dbB (d : List Tbl) : Bool:=decide ((d.length : Int) <= 6) && !Ay d (MR d)
def Q7 (d : List Tbl) : Prop:=d.length <= lim ∧ ∀ t ∈ d,t.1.length <= lim ∧ Hi t.2.2
theorem jD {d : List Tbl} (h : Q7 d) : CO d = some (dbB d):=by
 unfold CO dbB Ay
 rw [Bh (fun k => atB d k (MR d k)) h.1 (fun k hk rec => by
  have hr:=h.2 _ (List.getElem_mem hk)
  unfold CC AI
  rw [Az hk,Ai hk,AF hk (Au h.1),AN hk]
  simp only [cond_true,Ad,Yp hr.1,Xi hr.2,MR]
  cases nmB d[k].1 with
  | false => rfl
  | true =>
   by_cases h0 : 0 < k
   ·have hk' : k - 1 < d.length:=by omega
    rw [Ri hk h0 (Au h.1),Ai hk',AN hk',decide_eq_true (by omega : (0 : Int) < (k : Int)),decide_eq_true h0]
    simp only [cond_true,cond_false,Bool.not_true,Bool.false_or,Bool.true_and]
    cases Op.bytesLess d[k - 1].1 d[k].1 <;> cases M5 d[k].2 <;> cases decide (16 < (d[k].2.2.length : Int)) <;> rfl
   ·rw [decide_eq_false (by omega : ¬ (0 : Int) < (k : Int)),decide_eq_false h0]
    cases M5 d[k].2 <;> cases decide (16 < (d[k].2.2.length : Int)) <;> rfl) (fun rec => by unfold CC; rw [Ax]; rfl)]
 cases (List.range d.length).any fun k => atB d k (MR d k) <;> simp [Ad]
theorem jY {d : List Tbl} (h : Q7 d) : CH d = some (dbB d):=by
 unfold CH dbB Ay
 by_cases h6 : 6 < (d.length : Int)
 ·rw [decide_eq_true h6,decide_eq_false (by omega : ¬ (d.length : Int) <= 6)]; rfl
 rw [decide_eq_false h6,decide_eq_true (by omega : (d.length : Int) <= 6),cond_false,Bool.true_and]
 rw [Bh (fun k => atB d k (MR d k)) h.1 (fun k hk rec => by
  have hr:=h.2 _ (List.getElem_mem hk)
  unfold Cv AH
  rw [Az hk,Ai hk,AF hk (Au h.1),AN hk]
  simp only [cond_true,Ad,XW hr.1,US hr.2,MR]
  cases nmB d[k].1 with
  | false => rfl
  | true =>
   by_cases h0 : 0 < k
   ·have hk' : k - 1 < d.length:=by omega
    rw [Ri hk h0 (Au h.1),Ai hk',AN hk',decide_eq_true (by omega : (0 : Int) < (k : Int)),decide_eq_true h0]
    simp only [cond_true,cond_false,Bool.not_true,Bool.false_or,Bool.true_and]
    cases Op.bytesLess d[k - 1].1 d[k].1 <;> cases M5 d[k].2 <;> cases decide (16 < (d[k].2.2.length : Int)) <;> cases decide (d[k].2.1 < 1) <;> rfl
   ·rw [decide_eq_false (by omega : ¬ (0 : Int) < (k : Int)),decide_eq_false h0]
    cases M5 d[k].2 <;> cases decide (16 < (d[k].2.2.length : Int)) <;> cases decide (d[k].2.1 < 1) <;> rfl) (fun rec => by unfold Cv; rw [Ax]; rfl)]
 cases (List.range d.length).any fun k => atB d k (MR d k) <;> rfl
end Go.Proofs.YtkclaipnejgloaaGreatDoor
