/-
 Rational numbers: the reference and the program reckon the same. On the printed functions; no conditions.
-/
import Derived.Test.YtkclaipnejgloaaGreatDoorTwIF1
namespace Go.Proofs.YtkclaipnejgloaaGreatDoor
open Go.RowKit
set_option linter.unusedVariables false
set_option linter.unusedSimpArgs false
abbrev Rt:=Int × Int
theorem jV {B : (Int × Int -> Option Int) -> Int × Int -> Option Int} (hB : ∀ rec a b,B rec (a,b) = cond (b != 0) (chk (b ≠ 0) (rec (b,Int.tmod a b))) (some a)) :
  ∀ (k f m n : Nat),n < 2 ^ k -> 2 * k < f -> Ah B f ((m : Int),(n : Int)) = some ((Nat.gcd m n : Nat) : Int):=by
 have hz : ∀ (f m : Nat),0 < f -> Ah B f ((m : Int),((0 : Nat) : Int)) = some ((Nat.gcd m 0 : Nat) : Int):=fun f m hf => by
  cases f with
  | zero => omega
  | succ f => rw [AD,hB,Nat.gcd_zero_right]; rfl
 have hs : ∀ (f m n : Nat),0 < n -> Ah B (f + 1) ((m : Int),(n : Int)) = Ah B f ((n : Int),((m % n : Nat) : Int)):=fun f m n hn => by
  rw [AD,hB,show ((n : Int) != 0) = true by rw [bne_iff_ne]; omega,cond_true,Ar (by omega)]
  rfl
 have hg : ∀ m n : Nat,Nat.gcd m n = Nat.gcd n (m % n):=fun m n => by rw [Nat.gcd_comm m n,Nat.gcd_rec n m,Nat.gcd_comm]
 intro k
 induction k with
 | zero =>
  intro f m n hn hf
  obtain rfl : n = 0:=by omega
  exact hz f m (by omega)
 | succ k ih =>
  intro f m n hn hf
  rcases Nat.eq_zero_or_pos n with rfl | h0
  ·exact hz f m (by omega)
  ·obtain ⟨f,rfl⟩ : ∃ g,f = g + 2:=⟨f - 2,by omega⟩
   rw [hs (f + 1) m n h0,hg m n]
   rcases Nat.eq_zero_or_pos (m % n) with h1 | h1
   ·rw [h1]; exact hz _ n (by omega)
   ·rw [hs f n (m % n) h1,hg n (m % n)]
    refine ih f _ _ ?_ (by omega)
    have h2 : m % n < n:=Nat.mod_lt _ h0
    have h3 : n % (m % n) < m % n:=Nat.mod_lt _ h1
    rw [Nat.pow_succ] at hn
    rcases Nat.lt_or_ge n (2 * (m % n)) with h4 | h4
    ·have h5 : n % (m % n) = n - m % n:=by
      rw [Nat.mod_eq_sub_mod (by omega),Nat.mod_eq_of_lt (by omega)]
     omega
    ·omega
theorem ZX (m n : Nat) (hn : n < 2 ^ 62) : HI (m : Int) (n : Int) = some ((Nat.gcd m n : Nat) : Int):=by
 unfold HI
 rw [jV (fun rec a b => by simp only [J4]) 62 fz m n hn (by unfold fz; omega),AB]
theorem Y3 (m n : Nat) (hn : n < 2 ^ 62) : JS (m : Int) (n : Int) = some ((Nat.gcd m n : Nat) : Int):=by
 unfold JS
 rw [jV (fun rec a b => by simp only [Lm]) 62 fz m n hn (by unfold fz; omega),AB]
def rOk (r : Rt) : Bool:=btw r.2 1 1000000000 && (btw r.1 (-1000000000) 1000000000 && (((Nat.gcd r.1.natAbs r.2.natAbs : Nat) : Int) == 1))
theorem Sm {a : Int} (h : a.natAbs <= 4000000000000000000) : (if a < IntKind.i64.wrap (0 - a) then IntKind.i64.wrap (0 - a) else a) = (a.natAbs : Int):=by
 rw [wrap_in (by omega)]
 split <;> omega
theorem IC {x lo hi : Int} : btw x lo hi = true ↔ lo <= x ∧ x <= hi:=by unfold btw; simp
theorem R8 (r : Rt) : AO r = some (rOk r):=by
 unfold AO rOk
 rw [H4,AB]
 cases h2 : btw r.2 1 1000000000 with
 | false => rfl
 | true =>
  rw [cond_true,H4,AB]
  cases h1 : btw r.1 (-1000000000) 1000000000 with
  | false => rfl
  | true =>
   rw [IC] at h1 h2
   rw [cond_true,Sm (by omega)]
   have e : r.2 = (r.2.natAbs : Int):=by omega
   have hg:=ZX r.1.natAbs r.2.natAbs (by omega)
   rw [<- e] at hg
   rw [hg]; rfl
theorem UT (r : Rt) : A8 r = some (rOk r):=by
 unfold A8 rOk
 rw [Fb,AB]
 cases h2 : btw r.2 1 1000000000 with
 | false => rfl
 | true =>
  rw [cond_true,Fb,AB]
  cases h1 : btw r.1 (-1000000000) 1000000000 with
  | false => rfl
  | true =>
   rw [IC] at h1 h2
   rw [cond_true]
   unfold KH
   rw [Sm (by omega),AB]
   have e : r.2 = (r.2.natAbs : Int):=by omega
   have hg:=Y3 r.1.natAbs r.2.natAbs (by omega)
   rw [<- e] at hg
   rw [hg]; rfl
theorem IT {r : Rt} (h : rOk r = true) : 1 <= r.2 ∧ r.2 <= 1000000000 ∧ r.1.natAbs <= 1000000000 ∧ Nat.gcd r.1.natAbs r.2.natAbs = 1:=by
 unfold rOk at h
 simp only [Bool.and_eq_true,IC,beq_iff_eq] at h
 exact ⟨h.1.1,h.1.2,by omega,by omega⟩
def aq (n d : Int) : Rt × Bool :=
 cond (rOk (n.tdiv (Nat.gcd n.natAbs d.natAbs : Nat),d.tdiv (Nat.gcd n.natAbs d.natAbs : Nat))) ((n.tdiv (Nat.gcd n.natAbs d.natAbs : Nat),d.tdiv (Nat.gcd n.natAbs d.natAbs : Nat)),true) ((0,0),false)
def rNew (n d : Int) : Rt × Bool :=
 cond (d == 0) ((0,0),false) (cond (btw n (-4000000000000000000) 4000000000000000000) (cond (btw d (-4000000000000000000) 4000000000000000000) (cond (decide (d < 0)) (aq (-n) (-d)) (aq n d)) ((0,0),false)) ((0,0),false))
theorem Qo {n : Int} {g : Nat} (h : n.natAbs <= 4000000000000000000) : IntKind.i64.wrap (n.tdiv (g : Int)) = n.tdiv (g : Int):=by
 have:=show (n.tdiv (g : Int)).natAbs = n.natAbs / (g : Int).natAbs from Int.natAbs_tdiv n (g : Int)
 have h2 : n.natAbs / (g : Int).natAbs <= n.natAbs:=Nat.div_le_self _ _
 rw [<- this] at h2
 exact wrap_in (by omega)
theorem dM {n d : Int} (hn : n.natAbs <= 4000000000000000000) (hd : 0 < d ∧ d <= 4000000000000000000) : Dr n d = some (aq n d):=by
 unfold Dr aq
 have e : d = (d.natAbs : Int):=by omega
 have hg:=ZX n.natAbs d.natAbs (by omega)
 rw [<- e] at hg
 have hp : 0 < Nat.gcd n.natAbs d.natAbs:=Nat.gcd_pos_of_pos_right _ (by omega)
 rw [Sm hn,hg,AB,Ar (by omega),Ar (by omega),Qo hn,Qo (by omega),R8,AB]
 cases rOk (n.tdiv (Nat.gcd n.natAbs d.natAbs : Nat),d.tdiv (Nat.gcd n.natAbs d.natAbs : Nat)) <;> rfl
theorem bk {n d : Int} (hn : n.natAbs <= 4000000000000000000) (hd : 0 < d ∧ d <= 4000000000000000000) : Di n d = some (aq n d):=by
 unfold Di aq
 have e : d = (d.natAbs : Int):=by omega
 have hg:=Y3 n.natAbs d.natAbs (by omega)
 rw [<- e] at hg
 have hp : 0 < Nat.gcd n.natAbs d.natAbs:=Nat.gcd_pos_of_pos_right _ (by omega)
 unfold KH
 rw [Sm hn,AB,hg,AB,Ar (by omega),Ar (by omega),Qo hn,Qo (by omega),UT,AB]
 cases rOk (n.tdiv (Nat.gcd n.natAbs d.natAbs : Nat),d.tdiv (Nat.gcd n.natAbs d.natAbs : Nat)) <;> rfl
theorem dN (n d : Int) : FT n d = some (rNew n d):=by
 unfold FT rNew
 have e4 : IntKind.i64.wrap (0 - 4000000000000000000) = -4000000000000000000:=by decide
 cases h0 : d == 0 with
 | true => rfl
 | false =>
  rw [beq_eq_false_iff_ne] at h0
  rw [cond_false,cond_false,e4,H4,AB]
  cases h1 : btw n (-4000000000000000000) 4000000000000000000 with
  | false => rfl
  | true =>
   rw [Bool.not_true,cond_false,cond_true,H4,AB]
   cases h2 : btw d (-4000000000000000000) 4000000000000000000 with
   | false => rfl
   | true =>
    rw [IC] at h1 h2
    rw [Bool.not_true,cond_false,cond_true]
    by_cases h : d < 0
    ·rw [decide_eq_true h,cond_true,cond_true,wrap_in (by omega),wrap_in (by omega),Int.zero_sub,Int.zero_sub]
     exact dM (by omega) (by omega)
    ·rw [decide_eq_false h,cond_false,cond_false]
     exact dM (by omega) (by omega)
theorem bl (n d : Int) : FN n d = some (rNew n d):=by
 unfold FN rNew
 cases h0 : d == 0 with
 | true => rfl
 | false =>
  rw [beq_eq_false_iff_ne] at h0
  rw [cond_false,cond_false,Fb,AB]
  cases h1 : btw n (-4000000000000000000) 4000000000000000000 with
  | false => rfl
  | true =>
   rw [Bool.not_true,cond_false,cond_true,Fb,AB]
   cases h2 : btw d (-4000000000000000000) 4000000000000000000 with
   | false => rfl
   | true =>
    rw [IC] at h1 h2
    rw [Bool.not_true,cond_false,cond_true]
    by_cases h : d < 0
    ·rw [decide_eq_true h,cond_true,cond_true,wrap_in (by omega),wrap_in (by omega),Int.zero_sub,Int.zero_sub]
     exact bk (by omega) (by omega)
    ·rw [decide_eq_false h,cond_false,cond_false]
     exact bk (by omega) (by omega)
theorem el {x y : Int} (hx : x.natAbs <= 1000000000) (hy : y.natAbs <= 1000000000) : IntKind.i64.wrap (x * y) = x * y ∧ (x * y).natAbs <= 1000000000000000000:=by
 have h : (x * y).natAbs <= 1000000000 * 1000000000:=by rw [Int.natAbs_mul]; exact Nat.mul_le_mul hx hy
 exact ⟨wrap_in (by omega),by omega⟩
def TZ (a b : Rt) : Rt × Bool:=cond (rOk a) (cond (rOk b) (rNew (a.1 * b.2 + b.1 * a.2) (a.2 * b.2)) ((0,0),false)) ((0,0),false)
def dz (a b : Rt) : Int:=cond (rOk a) (cond (rOk b) (cond (decide (a.1 * b.2 < b.1 * a.2)) (-1) (cond (decide (b.1 * a.2 < a.1 * b.2)) 1 0)) 0) 0
theorem Xd {a b : Rt} (ha : rOk a = true) (hb : rOk b = true) : IntKind.i64.wrap (a.1 * b.2) = a.1 * b.2 ∧ IntKind.i64.wrap (b.1 * a.2) = b.1 * a.2 ∧ IntKind.i64.wrap (a.2 * b.2) = a.2 * b.2 ∧ IntKind.i64.wrap (a.1 * b.2 + b.1 * a.2) = a.1 * b.2 + b.1 * a.2 ∧ IntKind.i64.wrap (a.1 * b.1) = a.1 * b.1 ∧ IntKind.i64.wrap (a.2 * b.1) = a.2 * b.1:=by
 have fa:=IT ha
 have fb:=IT hb
 have h1:=el (x:=a.1) (y:=b.2) (by omega) (by omega)
 have h2:=el (x:=b.1) (y:=a.2) (by omega) (by omega)
 exact ⟨h1.1,h2.1,(el (by omega) (by omega)).1,wrap_in (by omega),(el (by omega) (by omega)).1,(el (by omega) (by omega)).1⟩
theorem XT (a b : Rt) : FV a b = some (rOk a && rOk b):=by
 unfold FV
 rw [UT,AB]
 cases rOk a with
 | false => rfl
 | true => rw [cond_true,UT,AB]; rfl
theorem dJ (a b : Rt) : FSQ a b = some (TZ a b):=by
 unfold FSQ TZ
 rw [R8,AB]
 cases ha : rOk a with
 | false => rfl
 | true =>
  rw [Bool.not_true,cond_false,cond_true,R8,AB]
  cases hb : rOk b with
  | false => rfl
  | true =>
   obtain ⟨e1,e2,e3,e4,e5,e6⟩:=Xd ha hb
   rw [Bool.not_true,cond_false,cond_true,e1,e2,e3,e4,dN]; rfl
theorem bh (a b : Rt) : FM a b = some (TZ a b):=by
 unfold FM TZ
 rw [XT,AB]
 cases ha : rOk a with
 | false => rfl
 | true =>
  cases hb : rOk b with
  | false => rfl
  | true =>
   obtain ⟨e1,e2,e3,e4,e5,e6⟩:=Xd ha hb
   rw [Bool.and_self,Bool.not_true,cond_false,cond_true,cond_true,e1,e2,e3,e4,bl]; rfl
theorem dK (a b : Rt) : DH a b = some (dz a b):=by
 unfold DH dz
 rw [R8,AB]
 cases ha : rOk a with
 | false => rfl
 | true =>
  rw [Bool.not_true,cond_false,cond_true,R8,AB]
  cases hb : rOk b with
  | false => rfl
  | true =>
   obtain ⟨e1,e2,e3,e4,e5,e6⟩:=Xd ha hb
   rw [Bool.not_true,cond_false,cond_true,e1,e2]
   cases decide (a.1 * b.2 < b.1 * a.2) <;> cases decide (b.1 * a.2 < a.1 * b.2) <;> rfl
theorem bj (a b : Rt) : DA a b = some (dz a b):=by
 unfold DA dz
 rw [XT,AB]
 cases ha : rOk a with
 | false => rfl
 | true =>
  cases hb : rOk b with
  | false => rfl
  | true =>
   obtain ⟨e1,e2,e3,e4,e5,e6⟩:=Xd ha hb
   rw [Bool.and_self,Bool.not_true,cond_false,cond_true,cond_true,e1,e2,Pb,AB]
   by_cases h1 : a.1 * b.2 < b.1 * a.2
   ·rw [if_pos h1,decide_eq_true h1]; rfl
   ·rw [if_neg h1,decide_eq_false h1]
    by_cases h2 : b.1 * a.2 < a.1 * b.2
    ·rw [if_pos h2,decide_eq_true h2]; rfl
    ·rw [if_neg h2,decide_eq_false h2]; rfl
end Go.Proofs.YtkclaipnejgloaaGreatDoor
