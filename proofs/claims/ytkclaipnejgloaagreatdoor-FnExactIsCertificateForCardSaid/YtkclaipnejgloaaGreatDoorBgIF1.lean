/-
 Great numbers: the reference and the program reckon the same, and it is the numbers' own arithmetic. On the printed functions; conditions: lengths.
-/
import Derived.Test.YtkclaipnejgloaaGreatDoorRtIF1
namespace Go.Proofs.YtkclaipnejgloaaGreatDoor
open Go.RowKit
set_option linter.unusedVariables false
set_option linter.unusedSimpArgs false
def CV (n : Nat) : List Int:=if h : n = 0 then [] else ((n % 10 : Nat) : Int) :: CV (n / 10)
termination_by n
decreasing_by exact Nat.div_lt_self (by omega) (by omega)
theorem Hz : CV 0 = []:=by rw [CV]; rfl
theorem Kj {n : Nat} (h : 0 < n) : CV n = ((n % 10 : Nat) : Int) :: CV (n / 10):=by rw [CV,dif_neg (by omega)]
def E3 : List Int -> Nat
 | [] => 0
 | d :: l => d.toNat + 10 * E3 l
theorem KE : ∀ n,E3 (CV n) = n:=by
 intro n
 induction n using Nat.strongRecOn with
 | _ n ih =>
  rcases Nat.eq_zero_or_pos n with rfl | h
  ·rw [Hz]; rfl
  ·rw [Kj h,E3,ih (n / 10) (Nat.div_lt_self h (by omega))]; omega
theorem WE {n : Nat} (h : CV n = []) : n = 0:=by
 rcases Nat.eq_zero_or_pos n with h0 | h0
 ·exact h0
 ·rw [Kj h0] at h; cases h
theorem Is : ∀ (k n : Nat),(CV n).length <= k ↔ n < 10 ^ k:=by
 intro k
 induction k with
 | zero =>
  intro n
  rw [Nat.pow_zero]
  constructor
  ·intro h
   have:=WE (List.eq_nil_of_length_eq_zero (by omega : (CV n).length = 0)); omega
  ·intro h; obtain rfl : n = 0:=by omega
   rw [Hz]; simp
 | succ k ih =>
  intro n
  rcases Nat.eq_zero_or_pos n with rfl | h
  ·rw [Hz]; exact ⟨fun _ => Nat.pow_pos (by omega),fun _ => by simp⟩
  ·rw [Kj h,List.length_cons,Nat.pow_succ,<- Nat.div_lt_iff_lt_mul (by omega),<- ih]; omega
theorem Mn : ∀ n,∀ e ∈ CV n,0 <= e ∧ e <= 9:=by
 intro n
 induction n using Nat.strongRecOn with
 | _ n ih =>
  intro e he
  rcases Nat.eq_zero_or_pos n with rfl | h
  ·rw [Hz] at he; cases he
  ·rw [Kj h] at he
   rcases List.mem_cons.1 he with rfl | he
   ·omega
   ·exact ih (n / 10) (Nat.div_lt_self h (by omega)) e he
theorem NQ : ∀ n,0 < n -> ∃ l d,CV n = l ++ [d] ∧ d ≠ 0:=by
 intro n
 induction n using Nat.strongRecOn with
 | _ n ih =>
  intro h
  rw [Kj h]
  rcases Nat.eq_zero_or_pos (n / 10) with h0 | h0
  ·rw [h0,Hz]; exact ⟨[],_,rfl,by omega⟩
  ·obtain ⟨l,d,e,hd⟩:=ih (n / 10) (Nat.div_lt_self h (by omega)) h0
   rw [e]; exact ⟨_ :: l,d,rfl,hd⟩
theorem UA : ∀ (l : List Int),(∀ e ∈ l,0 <= e ∧ e <= 9) -> (∀ x,l.getLast? = some x -> x ≠ 0) -> l = CV (E3 l)
 | [],_,_ => by rw [E3,Hz]
 | d :: l,h1,h2 => by
  have hd:=h1 d (List.mem_cons_self ..)
  cases l with
  | nil =>
   have : d ≠ 0:=h2 d rfl
   rw [E3,E3,Kj (by omega),show (d.toNat + 10 * 0) / 10 = 0 by omega,Hz]
   congr 1; omega
  | cons e l =>
   have ih:=UA (e :: l) (fun x hx => h1 x (List.mem_cons_of_mem _ hx)) (fun x hx => h2 x (by rw [List.getLast?_cons_cons]; exact hx))
   have hp : 0 < E3 (e :: l):=by
    rcases Nat.eq_zero_or_pos (E3 (e :: l)) with h | h
    ·rw [h,Hz] at ih; cases ih
    ·exact h
   rw [E3,Kj (by omega),show (d.toNat + 10 * E3 (e :: l)) / 10 = E3 (e :: l) by omega,<- ih]
   congr 1; omega
def gOk (l : List Int) : Bool := !Ay l (fun _ e => !btw e 0 9) && (decide ((l.length : Int) <= 60) && ((l.length : Int) == 0 || l.getLast? != some 0))
theorem UE {l : List Int} : gOk l = true ↔ ∃ n,n < 10 ^ 60 ∧ l = CV n:=by
 unfold gOk
 simp only [Bool.and_eq_true,Bool.not_eq_true',decide_eq_true_eq,Bool.or_eq_true,beq_iff_eq,bne_iff_ne,ne_eq]
 constructor
 ·rintro ⟨h1,h2,h3⟩
  have e:=UA l (fun e he => by have:=Ix h1 he; simpa [IC] using this) (fun x hx hx0 => by
   subst hx0
   rcases h3 with h3 | h3
   ·have hn : l = []:=List.eq_nil_of_length_eq_zero (by omega)
    rw [hn] at hx; cases hx
   ·exact h3 hx)
  refine ⟨E3 l,?_,e⟩
  rw [<- Is,<- e]; omega
 ·rintro ⟨n,hn,rfl⟩
  rw [<- Is] at hn
  refine ⟨Jq fun i hi => ?_,by omega,?_⟩
  ·have:=Mn n _ (List.getElem_mem hi)
   rw [Bool.not_eq_false',IC]; exact this
  ·rcases Nat.eq_zero_or_pos n with rfl | h
   ·left; rw [Hz]; rfl
   ·right
    obtain ⟨l,d,e,hd⟩:=NQ n h
    rw [e,List.getLast?_append]
    simpa using hd
theorem Mo {n : Nat} (h : n < 10 ^ 60) : gOk (CV n) = true:=UE.2 ⟨n,h,rfl⟩
theorem QH {l : List Int} (h : 0 < l.length) (hl : l.length <= lim) : ∃ x,AA l (IntKind.i64.wrap ((l.length : Int) - 1)) = some x ∧ l.getLast? = some x:=by
 have:=hl
 unfold lim at this
 rw [wrap_in (by omega),show (l.length : Int) - 1 = ((l.length - 1 : Nat) : Int) by omega,Ai (by omega)]
 exact ⟨_,rfl,by rw [List.getLast?_eq_getElem?,List.getElem?_eq_getElem (by omega)]⟩
theorem Xg {l : List Int} (h : l.length <= lim) : B3 l = some (gOk l):=by
 unfold B3 gOk
 rw [Bh (fun k => atB l k fun e => !btw e 0 9) h (fun k hk rec => by
  unfold EZ
  rw [Az hk,cond_true,Ai hk,AB,H4,AB,AF hk (Au h),AN hk]) (fun rec => by unfold EZ; rw [Ax,cond_false]),AB]
 show (match cond (Ay l fun _ e => !btw e 0 9) (Sum.inr false) (Sum.inl ()) with | .inl _ => _ | .inr r => some r) = _
 cases Ay l fun _ e => !btw e 0 9 with
 | true => rfl
 | false =>
  simp only [cond_false,Bool.not_false,Bool.true_and]
  cases decide ((l.length : Int) <= 60) with
  | false => rfl
  | true =>
   rw [cond_true,Bool.true_and]
   by_cases h0 : l.length = 0
   ·rw [show ((l.length : Int) == 0) = true by rw [beq_iff_eq]; omega]; rfl
   ·obtain ⟨x,e1,e2⟩:=QH (l:=l) (by omega) h
    rw [show ((l.length : Int) == 0) = false by rw [beq_eq_false_iff_ne]; omega,cond_false,e1,AB,e2]
    show some (x != 0) = some (false || some x != some 0)
    rw [Bool.false_or]
    rfl
theorem WG {l : List Int} (h : l.length <= lim) : BZ l = some (gOk l):=by
 unfold BZ gOk
 rw [Bh (fun k => atB l k fun e => !btw e 0 9) h (fun k hk rec => by
  unfold ER
  rw [Az hk,cond_true,Ai hk,AB,Fb,AB,AF hk (Au h),AN hk]) (fun rec => by unfold ER; rw [Ax,cond_false]),AB]
 show (match cond (Ay l fun _ e => !btw e 0 9) (Sum.inr false) (Sum.inl ()) with | .inl _ => _ | .inr r => some r) = _
 cases Ay l fun _ e => !btw e 0 9 with
 | true => rfl
 | false =>
  simp only [cond_false,Bool.not_false,Bool.true_and]
  cases decide ((l.length : Int) <= 60) with
  | false => rfl
  | true =>
   rw [cond_true,Bool.true_and]
   by_cases h0 : l.length = 0
   ·rw [show ((l.length : Int) == 0) = true by rw [beq_iff_eq]; omega]; rfl
   ·obtain ⟨x,e1,e2⟩:=QH (l:=l) (by omega) h
    rw [show ((l.length : Int) == 0) = false by rw [beq_eq_false_iff_ne]; omega,cond_false,e1,AB,e2]
    show some (x != 0) = some (false || some x != some 0)
    rw [Bool.false_or]
    rfl
theorem I5 {n : Nat} (h : n < 10 ^ 60) : (CV n).length <= 60:=(Is 60 n).2 h
theorem U5 {k : Nat} (h : k <= 60) : k <= lim:=by unfold lim; omega
theorem T9 {B : (Int × List Int -> Option (List Int)) -> Int × List Int -> Option (List Int)} (hB : ∀ rec n l,B rec (n,l) = cond (decide (0 < n)) (chk (l.length + [Int.tmod n 10].length <= lim) (rec (IntKind.i64.wrap (Int.tdiv n 10),l ++ [Int.tmod n 10]))) (some l)) :
  ∀ (k n : Nat) (l : List Int) (f : Nat),n <= 9223372036854775807 -> n < 10 ^ k -> k < f -> l.length + k <= lim -> Ah B f ((n : Int),l) = some (l ++ CV n)
 | 0,n,l,f,_,h,hf,_ => by
  obtain rfl : n = 0:=by omega
  obtain ⟨f,rfl⟩ : ∃ g,f = g + 1:=⟨f - 1,by omega⟩
  rw [AD,hB,Hz,List.append_nil]; rfl
 | k + 1,n,l,f,h1,h2,hf,h3 => by
  obtain ⟨f,rfl⟩ : ∃ g,f = g + 1:=⟨f - 1,by omega⟩
  rw [AD,hB]
  rcases Nat.eq_zero_or_pos n with rfl | hp
  ·rw [Hz,List.append_nil]; rfl
  ·have e1 : Int.tdiv (n : Int) 10 = ((n / 10 : Nat) : Int):=rfl
   have e2 : Int.tmod (n : Int) 10 = ((n % 10 : Nat) : Int):=rfl
   rw [decide_eq_true (by omega),cond_true,e1,e2,Ar (by rw [List.length_singleton]; omega),wrap_in (by omega),T9 hB k (n / 10) _ f (by omega) (by rw [Nat.pow_succ] at h2; omega) (by omega) (by rw [List.length_append,List.length_singleton]; omega),Kj hp,List.append_assoc]
   rfl
theorem Sr {B : (Int × List Int -> Option (List Int)) -> Int × List Int -> Option (List Int)} (hB : ∀ rec n l,B rec (n,l) = cond (decide (0 < n)) (chk (l.length + [Int.tmod n 10].length <= lim) (rec (IntKind.i64.wrap (Int.tdiv n 10),l ++ [Int.tmod n 10]))) (some l)) {n : Int} (h : n <= 9223372036854775807) :
  Ah B fz (n,[]) = some (CV n.toNat):=by
 by_cases h0 : 0 <= n
 ·have:=T9 hB 19 n.toNat [] fz (by omega) (by omega) (by unfold fz; omega) (by unfold lim; simp)
  rw [show ((n.toNat : Nat) : Int) = n by omega] at this
  exact this
 ·rw [show n.toNat = 0 by omega,Hz,show fz = (fz - 1) + 1 from rfl,AD,hB,decide_eq_false (by omega)]; rfl
theorem VL {n : Int} (h : n <= 9223372036854775807) : Cz n = some (CV n.toNat):=by
 unfold Cz
 rw [Sr (fun rec n l => by simp only [Gt]) h,AB]
theorem UM {n : Int} (h : n <= 9223372036854775807) : Ct n = some (CV n.toNat):=by
 unfold Ct
 rw [Sr (fun rec n l => by simp only [F9]) h,AB]
def gEm : Nat -> Nat -> List Int
 | 0,v => CV v
 | n + 1,v => ((v % 10 : Nat) : Int) :: gEm n (v / 10)
theorem UB : ∀ n v,∃ z,gEm n v = CV v ++ List.replicate z 0
 | 0,v => ⟨0,by rw [gEm,List.replicate_zero,List.append_nil]⟩
 | n + 1,v => by
  obtain ⟨z,e⟩:=UB n (v / 10)
  rw [gEm,e]
  rcases Nat.eq_zero_or_pos v with rfl | h
  ·exact ⟨z + 1,by rw [Nat.zero_div,Hz]; rfl⟩
  ·exact ⟨z,by rw [Kj h]; rfl⟩
abbrev CBd:=(List Int × Int × Int -> Option (List Int)) -> List Int × Int × Int -> Option (List Int)
def ep (B : CBd) (d : List Int) : Prop := ∀ rec (out : List Int) (c : Int) (k : Nat),
 (∀ hk : k < d.length,B rec (out,c,(k : Int)) = chk (out.length + [Int.tmod (IntKind.i64.wrap (c + d[k])) 10].length <= lim) (rec (out ++ [Int.tmod (IntKind.i64.wrap (c + d[k])) 10],IntKind.i64.wrap (Int.tdiv (IntKind.i64.wrap (c + d[k])) 10),IntKind.i64.wrap ((k : Int) + 1)))) ∧
 (d.length <= k -> B rec (out,c,(k : Int)) = cond (decide (0 < c)) (chk (out.length + [Int.tmod c 10].length <= lim) (rec (out ++ [Int.tmod c 10],IntKind.i64.wrap (Int.tdiv c 10),IntKind.i64.wrap ((k : Int) + 1)))) (some out))
theorem XI {B : CBd} {d : List Int} (hB : ep B d) : ∀ (j c k : Nat) (out : List Int) (f : Nat),c < 10 ^ j -> c <= 1000000000 -> d.length <= k -> j < f -> out.length + j <= lim -> k + j <= lim -> Ah B f (out,(c : Int),(k : Int)) = some (out ++ CV c)
 | 0,c,k,out,f,h,_,hk,hf,_,_ => by
  obtain rfl : c = 0:=by omega
  obtain ⟨f,rfl⟩ : ∃ g,f = g + 1:=⟨f - 1,by omega⟩
  rw [AD,(hB _ _ _ _).2 hk,Hz,List.append_nil]; rfl
 | j + 1,c,k,out,f,h,hc,hk,hf,ho,hkl => by
  obtain ⟨f,rfl⟩ : ∃ g,f = g + 1:=⟨f - 1,by omega⟩
  rw [AD,(hB _ _ _ _).2 hk]
  rcases Nat.eq_zero_or_pos c with rfl | hp
  ·rw [Hz,List.append_nil]; rfl
  ·have e1 : Int.tdiv (c : Int) 10 = ((c / 10 : Nat) : Int):=rfl
   have e2 : Int.tmod (c : Int) 10 = ((c % 10 : Nat) : Int):=rfl
   have hl : lim = 1099511627776:=rfl
   rw [decide_eq_true (by omega),cond_true,e1,e2,Ar (by rw [List.length_singleton]; omega),wrap_in (by omega),wrap_in (by omega),show ((k : Int) + 1) = ((k + 1 : Nat) : Int) by omega,
    XI hB j (c / 10) (k + 1) _ f (by rw [Nat.pow_succ] at h; omega) (by omega) (by omega) (by omega) (by rw [List.length_append,List.length_singleton]; omega) (by omega),Kj hp,List.append_assoc]
   rfl
theorem Uf {B : CBd} {d : List Int} (hB : ep B d) (hd : ∀ e ∈ d,0 <= e ∧ e <= 1000000000) : ∀ (j c k : Nat) (out : List Int) (f : Nat),k + j = d.length -> c <= 1000000000 -> j + 11 < f -> out.length + j + 11 <= lim -> k + j + 11 <= lim -> Ah B f (out,(c : Int),(k : Int)) = some (out ++ gEm j (E3 (d.drop k) + c))
 | 0,c,k,out,f,hk,hc,hf,ho,hkl => by
  rw [XI hB 10 c k out f (by omega) hc (by omega) (by omega) (by omega) (by omega),List.drop_of_length_le (by omega),E3,Nat.zero_add,gEm]
 | j + 1,c,k,out,f,hk,hc,hf,ho,hkl => by
  obtain ⟨f,rfl⟩ : ∃ g,f = g + 1:=⟨f - 1,by omega⟩
  have hlt : k < d.length:=by omega
  have he:=hd _ (List.getElem_mem hlt)
  have hl : lim = 1099511627776:=rfl
  obtain ⟨e,hee⟩ : ∃ e : Nat,d[k] = (e : Int):=⟨d[k].toNat,by omega⟩
  rw [hee] at he
  have e0 : IntKind.i64.wrap ((c : Int) + (e : Int)) = ((c + e : Nat) : Int):=by rw [wrap_in (by omega)]; omega
  have e1 : Int.tdiv ((c + e : Nat) : Int) 10 = (((c + e) / 10 : Nat) : Int):=rfl
  have e2 : Int.tmod ((c + e : Nat) : Int) 10 = (((c + e) % 10 : Nat) : Int):=rfl
  rw [AD,(hB _ _ _ _).1 hlt,hee,e0,e1,e2,Ar (by rw [List.length_singleton]; omega),wrap_in (by omega),wrap_in (by omega),show ((k : Int) + 1) = ((k + 1 : Nat) : Int) by omega,
   Uf hB hd j ((c + e) / 10) (k + 1) _ f (by omega) (by omega) (by omega) (by rw [List.length_append,List.length_singleton]; omega) (by omega),List.drop_eq_getElem_cons hlt,hee,E3,gEm,List.append_assoc,
   show (((e : Int).toNat + 10 * E3 (d.drop (k + 1)) + c) % 10) = (c + e) % 10 by omega,show (((e : Int).toNat + 10 * E3 (d.drop (k + 1)) + c) / 10) = E3 (d.drop (k + 1)) + (c + e) / 10 by omega]
  rfl
def gR (v : Nat) : List Int × Bool:=cond (decide (v < 10 ^ 60)) (CV v,true) ([],false)
theorem V1 : ∀ (z v f : Nat),(CV v).length + z <= lim -> z < f -> Ah Gw f (CV v ++ List.replicate z 0) = some (CV v)
 | 0,v,f,hl,hf => by
  obtain ⟨f,rfl⟩ : ∃ g,f = g + 1:=⟨f - 1,by omega⟩
  rw [AD,List.replicate_zero,List.append_nil,Gw]
  have h9 : lim = 1099511627776:=rfl
  rcases Nat.eq_zero_or_pos v with rfl | hv
  ·rw [Hz]; rfl
  ·obtain ⟨l,d,e,hd⟩:=NQ v hv
   have hlen : (CV v).length = l.length + 1:=by rw [e]; simp
   rw [decide_eq_true (by omega),cond_true,wrap_in (by omega),show ((CV v).length : Int) - 1 = ((l.length : Nat) : Int) by omega,Ai (by omega),AB]
   have : (CV v)[l.length]'(by omega) = d:=by simp [e]
   rw [this,show (d == 0) = false by rw [beq_eq_false_iff_ne]; exact hd,cond_false]
 | z + 1,v,f,hl,hf => by
  obtain ⟨f,rfl⟩ : ∃ g,f = g + 1:=⟨f - 1,by omega⟩
  have h9 : lim = 1099511627776:=rfl
  have hlen : (CV v ++ List.replicate (z + 1) (0 : Int)).length = (CV v).length + z + 1:=by rw [List.length_append,List.length_replicate]; omega
  rw [AD,Gw,decide_eq_true (by omega),cond_true,wrap_in (by omega),hlen,show (((CV v).length + z + 1 : Nat) : Int) - 1 = (((CV v).length + z : Nat) : Int) by omega,Ai (by omega),AB]
  have h0 : (CV v ++ List.replicate (z + 1) (0 : Int))[(CV v).length + z]'(by omega) = 0:=by
   rw [List.getElem_append_right (by omega),List.getElem_replicate]
  rw [h0,show ((0 : Int) == 0) = true from rfl,cond_true,Ar (by omega)]
  have : Cq (CV v ++ List.replicate (z + 1) (0 : Int)) 0 (((CV v).length + z : Nat) : Int) = CV v ++ List.replicate z 0:=by
   unfold Cq
   rw [Int.toNat_natCast,show (0 : Int).toNat = 0 from rfl,List.drop_zero,List.take_append,List.take_of_length_le (by omega),Nat.add_sub_cancel_left,List.take_replicate,Nat.min_eq_left (by omega)]
  rw [this]
  exact V1 z v f (by omega) (by omega)
theorem V0 {v z : Nat} (hl : (CV v).length + z <= lim) : ∀ (j f : Nat),j <= z -> j < f -> Ah (Ge (CV v ++ List.replicate z 0)) f (((CV v).length + j : Nat) : Int) = some ((CV v).length : Int)
 | 0,f,hj,hf => by
  obtain ⟨f,rfl⟩ : ∃ g,f = g + 1:=⟨f - 1,by omega⟩
  have h9 : lim = 1099511627776:=rfl
  rw [AD,Ge,Nat.add_zero]
  rcases Nat.eq_zero_or_pos v with rfl | hv
  ·rw [Hz]; rfl
  ·obtain ⟨l,d,e,hd⟩:=NQ v hv
   have hlen : (CV v).length = l.length + 1:=by rw [e]; simp
   rw [decide_eq_true (by omega),cond_true,wrap_in (by omega),show ((CV v).length : Int) - 1 = ((l.length : Nat) : Int) by omega,Ai (by rw [List.length_append]; omega),AB]
   have : (CV v ++ List.replicate z (0 : Int))[l.length]'(by rw [List.length_append]; omega) = d:=by rw [List.getElem_append_left (by omega)]; simp [e]
   rw [this,show (d == 0) = false by rw [beq_eq_false_iff_ne]; exact hd,cond_false]
 | j + 1,f,hj,hf => by
  obtain ⟨f,rfl⟩ : ∃ g,f = g + 1:=⟨f - 1,by omega⟩
  have h9 : lim = 1099511627776:=rfl
  rw [AD,Ge,decide_eq_true (by omega),cond_true,wrap_in (by omega),show (((CV v).length + (j + 1) : Nat) : Int) - 1 = (((CV v).length + j : Nat) : Int) by omega,Ai (by rw [List.length_append,List.length_replicate]; omega),AB]
  have h0 : (CV v ++ List.replicate z (0 : Int))[(CV v).length + j]'(by rw [List.length_append,List.length_replicate]; omega) = 0:=by
   rw [List.getElem_append_right (by omega),List.getElem_replicate]
  rw [h0,show ((0 : Int) == 0) = true from rfl,cond_true]
  exact V0 hl j f (by omega) (by omega)
theorem RQ : ∀ n v,(gEm n v).length <= n + (CV v).length
 | 0,v => by rw [gEm]; omega
 | n + 1,v => by
  have:=RQ n (v / 10)
  rw [gEm,List.length_cons]
  have h2 : (CV (v / 10)).length <= (CV v).length:=by
   rcases Nat.eq_zero_or_pos v with rfl | h
   ·rw [Nat.zero_div]; exact Nat.le_refl _
   ·rw [Kj h,List.length_cons]; omega
  omega
theorem UF : ∀ (l : List Int),(∀ e ∈ l,0 <= e ∧ e <= 1000000000) -> E3 l * 9 + 1000000000 <= 1000000000 * 10 ^ l.length
 | [],_ => by rw [E3,List.length_nil,Nat.pow_zero]; omega
 | d :: l,h => by
  have h1:=h d (List.mem_cons_self ..)
  have h2:=UF l fun e he => h e (List.mem_cons_of_mem _ he)
  rw [E3,List.length_cons,Nat.pow_succ]
  omega
theorem UG (l : List Int) (h : ∀ e ∈ l,0 <= e ∧ e <= 1000000000) : E3 l < 10 ^ (l.length + 10):=by
 have h1:=UF l h
 rw [Nat.pow_add]
 have : 0 < 10 ^ l.length:=Nat.pow_pos (by omega)
 omega
theorem ZV {d : List Int} (hd : ∀ e ∈ d,0 <= e ∧ e <= 1000000000) (hl : d.length <= 1000000) : Ib d = some (gR (E3 d)):=by
 have h9 : lim = 1099511627776:=rfl
 have hB : ep (EE d) d:=fun rec out c k => ⟨fun hk => by
  simp only [EE,FA,FB]
  rw [Az hk,cond_true,cond_true,cond_true,Ai hk,AB],fun hk => by
  simp only [EE,FA,FB]
  rw [decide_eq_false (by omega),cond_false,cond_false]⟩
 have h1:=Uf hB hd d.length 0 0 [] fz (by omega) (by omega) (by unfold fz; omega) (by simp; omega) (by omega)
 have hlen:=(Is _ _).2 (UG d hd)
 unfold Ib
 rw [show ((0 : Nat) : Int) = 0 from rfl] at h1
 rw [h1,AB,List.nil_append,List.drop_zero,Nat.add_zero]
 obtain ⟨z,e⟩:=UB d.length (E3 d)
 have hz:=RQ d.length (E3 d)
 rw [e,List.length_append,List.length_replicate] at hz
 rw [e,V1 z _ fz (by omega) (by unfold fz; omega),AB]
 unfold gR
 by_cases h : E3 d < 10 ^ 60
 ·have:=I5 h
  rw [decide_eq_true h,decide_eq_false (by omega)]; rfl
 ·have : ¬ (CV (E3 d)).length <= 60:=fun hh => h ((Is _ _).1 hh)
  rw [decide_eq_false h,decide_eq_true (by omega)]; rfl
theorem Y2 {d : List Int} (hd : ∀ e ∈ d,0 <= e ∧ e <= 1000000000) (hl : d.length <= 1000000) : HU d = some (gR (E3 d)):=by
 have h9 : lim = 1099511627776:=rfl
 have hB : ep (Ex d) d:=fun rec out c k => ⟨fun hk => by
  simp only [Ex,Fl,Fm]
  rw [Az hk,cond_true,cond_true,cond_true,Ai hk,AB],fun hk => by
  simp only [Ex,Fl,Fm]
  rw [decide_eq_false (by omega),cond_false,cond_false]⟩
 have h1:=Uf hB hd d.length 0 0 [] fz (by omega) (by omega) (by unfold fz; omega) (by simp; omega) (by omega)
 have hlen:=(Is _ _).2 (UG d hd)
 unfold HU
 rw [show ((0 : Nat) : Int) = 0 from rfl] at h1
 rw [h1,AB,List.nil_append,List.drop_zero,Nat.add_zero]
 obtain ⟨z,e⟩:=UB d.length (E3 d)
 have hz:=RQ d.length (E3 d)
 rw [e,List.length_append,List.length_replicate] at hz
 have h2:=V0 (v:=E3 d) (z:=z) (by omega) z fz (Nat.le_refl _) (by unfold fz; omega)
 rw [e,List.length_append,List.length_replicate,h2,AB,Ar (by omega)]
 have h3 : Cq (CV (E3 d) ++ List.replicate z (0 : Int)) 0 ((CV (E3 d)).length : Int) = CV (E3 d):=by
  unfold Cq
  rw [Int.toNat_natCast,show (0 : Int).toNat = 0 from rfl,List.drop_zero,List.take_left']; rfl
 rw [h3]
 unfold gR
 by_cases h : E3 d < 10 ^ 60
 ·have:=I5 h
  rw [decide_eq_true h,decide_eq_false (by omega)]; rfl
 ·have : ¬ (CV (E3 d)).length <= 60:=fun hh => h ((Is _ _).1 hh)
  rw [decide_eq_false h,decide_eq_true (by omega)]; rfl
theorem SD : ∀ (l : List Int) (j : Nat) (t : Int) (hj : j < l.length),0 <= l[j] -> 0 <= t -> E3 (l.set j (l[j] + t)) = E3 l + t.toNat * 10 ^ j
 | [],j,t,hj,_,_ => by simp at hj
 | d :: l,0,t,hj,h0,ht => by
  simp only [List.getElem_cons_zero] at h0
  simp only [List.getElem_cons_zero,List.set_cons_zero,E3,Nat.pow_zero]; omega
 | d :: l,j + 1,t,hj,h0,ht => by
  simp only [List.getElem_cons_succ] at h0
  simp only [List.getElem_cons_succ,List.set_cons_succ,E3]
  rw [SD l j t (by simpa using hj) h0 ht,Nat.pow_succ,Nat.mul_add,<- Nat.mul_assoc]
  rw [Nat.mul_comm (t.toNat) (10 ^ j * 10),Nat.mul_comm 10 t.toNat,Nat.mul_assoc t.toNat 10,Nat.mul_comm (10 ^ j) 10,Nat.mul_comm t.toNat (10 * 10 ^ j)]
  omega
theorem NT : ∀ n,E3 (List.replicate n 0) = 0
 | 0 => rfl
 | n + 1 => by rw [List.replicate_succ,E3,NT n]; rfl
def gBd (c : Int) (l : List Int) : Prop := ∀ e ∈ l,0 <= e ∧ e <= c
theorem YZ {c : Int} {l : List Int} (h : gBd c l) {j : Nat} {t : Int} (hj : j < l.length) (ht : 0 <= t ∧ t <= 81) : gBd (c + 81) (l.set j (l[j] + t)):=fun e he => by
 rcases List.mem_or_eq_of_mem_set he with he | rfl
 ·have:=h e he; omega
 ·have:=h _ (List.getElem_mem hj); omega
abbrev MBd:=(List Int × Int -> Option (List Int)) -> List Int × Int -> Option (List Int)
theorem YS {x y : Int} (hx : 0 <= x ∧ x <= 9) (hy : 0 <= y ∧ y <= 9) : 0 <= x * y ∧ x * y <= 81 ∧ (x * y).toNat = x.toNat * y.toNat:=by
 obtain ⟨a,rfl⟩ : ∃ a : Nat,x = (a : Int):=⟨x.toNat,by omega⟩
 obtain ⟨b,rfl⟩ : ∃ b : Nat,y = (b : Int):=⟨y.toNat,by omega⟩
 have h1 : a * b <= 9 * 9:=Nat.mul_le_mul (by omega) (by omega)
 have e : (a : Int) * (b : Int) = ((a * b : Nat) : Int):=by simp
 rw [e]
 exact ⟨by omega,by omega,by rw [Int.toNat_natCast,Int.toNat_natCast,Int.toNat_natCast]⟩
theorem Vb {B : MBd} {b : List Int} {x : Int} {i : Nat} (hx : 0 <= x ∧ x <= 9) (hb : ∀ e ∈ b,0 <= e ∧ e <= 9) (hl : i + b.length <= 1000)
  (hB : ∀ rec (y : List Int) (k : Nat),y.length <= 1000 -> (∀ (hk : k < b.length) (hy : i + k < y.length),B rec (y,(k : Int)) = rec (Ky y ((i + k : Nat) : Int) (IntKind.i64.wrap (y[i + k] + IntKind.i64.wrap (x * b[k]))),((k + 1 : Nat) : Int))) ∧ (b.length <= k -> B rec (y,(k : Int)) = some y)) :
  ∀ (j k : Nat) (y : List Int) (c : Int) (f : Nat),k + j = b.length -> i + b.length <= y.length -> y.length <= 1000 -> gBd c y -> 0 <= c -> c + 81 * j <= 1000000000 -> j < f -> ∃ y',Ah B f (y,(k : Int)) = some y' ∧ y'.length = y.length ∧ gBd (c + 81 * j) y' ∧ E3 y' = E3 y + x.toNat * E3 (b.drop k) * 10 ^ (i + k)
 | 0,k,y,c,f,hk,hy,hy2,hc,_,_,hf => by
  obtain ⟨f,rfl⟩ : ∃ g,f = g + 1:=⟨f - 1,by omega⟩
  refine ⟨y,?_,rfl,by simpa using hc,?_⟩
  ·rw [AD,(hB _ _ _ hy2).2 (by omega)]
  ·rw [List.drop_of_length_le (by omega),E3]; simp
 | j + 1,k,y,c,f,hk,hy,hy2,hc,h0,h1,hf => by
  obtain ⟨f,rfl⟩ : ∃ g,f = g + 1:=⟨f - 1,by omega⟩
  have hkl : k < b.length:=by omega
  have hyl : i + k < y.length:=by omega
  have hd:=YS hx (hb _ (List.getElem_mem hkl))
  have hyb:=hc _ (List.getElem_mem hyl)
  have e1 : Ky y ((i + k : Nat) : Int) (IntKind.i64.wrap (y[i + k] + IntKind.i64.wrap (x * b[k]))) = y.set (i + k) (y[i + k] + x * b[k]):=by
   unfold Ky
   rw [Int.toNat_natCast,wrap_in (n:=x * b[k]) (by omega),wrap_in (by omega)]
  obtain ⟨y',q1,q2,q3,q4⟩:=Vb hx hb hl hB j (k + 1) (y.set (i + k) (y[i + k] + x * b[k])) (c + 81) f (by omega) (by rw [List.length_set]; exact hy) (by rw [List.length_set]; exact hy2) (YZ hc hyl ⟨hd.1,hd.2.1⟩) (by omega) (by omega) (by omega)
  refine ⟨y',?_,by rw [q2,List.length_set],?_,?_⟩
  ·rw [AD,(hB _ _ _ hy2).1 hkl hyl,e1]; exact q1
  ·have : c + 81 + 81 * (j : Int) = c + 81 * ((j + 1 : Nat) : Int):=by omega
   rw [<- this]; exact q3
  ·rw [q4,SD y (i + k) _ hyl hyb.1 hd.1,hd.2.2,List.drop_eq_getElem_cons hkl,E3,show i + (k + 1) = i + k + 1 by omega,Nat.pow_succ]
   generalize x.toNat = X
   generalize (b[k]).toNat = Y
   generalize E3 (b.drop (k + 1)) = Z
   generalize 10 ^ (i + k) = P
   rw [Nat.mul_add,Nat.add_mul,Nat.add_assoc]
   congr 2
   rw [Nat.mul_comm P 10,<- Nat.mul_assoc,Nat.mul_assoc X Z 10,Nat.mul_comm Z 10]
theorem RY {B : MBd} {a b : List Int} (ha : ∀ e ∈ a,0 <= e ∧ e <= 9) (hl : a.length <= 60) (hlb : b.length <= 60)
  (hB : ∀ rec (y : List Int) (i : Nat),(∀ (hi : i < a.length) (c : Int),y.length = a.length + b.length -> gBd c y -> 0 <= c -> c + 81 * 60 <= 1000000000 -> ∃ y',B rec (y,(i : Int)) = rec (y',((i + 1 : Nat) : Int)) ∧ y'.length = y.length ∧ gBd (c + 81 * 60) y' ∧ E3 y' = E3 y + (a[i]).toNat * E3 b * 10 ^ i) ∧ (a.length <= i -> B rec (y,(i : Int)) = some y)) :
  ∀ (j i : Nat) (y : List Int) (c : Int) (f : Nat),i + j = a.length -> y.length = a.length + b.length -> gBd c y -> 0 <= c -> c + 81 * 60 * j <= 1000000000 -> j < f -> ∃ y',Ah B f (y,(i : Int)) = some y' ∧ y'.length = y.length ∧ gBd (c + 81 * 60 * j) y' ∧ E3 y' = E3 y + E3 (a.drop i) * E3 b * 10 ^ i
 | 0,i,y,c,f,hi,hy,hc,_,_,hf => by
  obtain ⟨f,rfl⟩ : ∃ g,f = g + 1:=⟨f - 1,by omega⟩
  refine ⟨y,?_,rfl,by simpa using hc,?_⟩
  ·rw [AD,(hB _ _ _).2 (by omega)]
  ·rw [List.drop_of_length_le (by omega),E3]; simp
 | j + 1,i,y,c,f,hi,hy,hc,h0,h1,hf => by
  obtain ⟨f,rfl⟩ : ∃ g,f = g + 1:=⟨f - 1,by omega⟩
  have hil : i < a.length:=by omega
  obtain ⟨y1,q1,q2,q3,q4⟩:=(hB (Ah B f) y i).1 hil c hy hc h0 (by omega)
  obtain ⟨y',r1,r2,r3,r4⟩:=RY ha hl hlb hB j (i + 1) y1 (c + 81 * 60) f (by omega) (by omega) q3 (by omega) (by omega) (by omega)
  refine ⟨y',?_,by omega,?_,?_⟩
  ·rw [AD,q1]; exact r1
  ·have : c + 81 * 60 + 81 * 60 * (j : Int) = c + 81 * 60 * ((j + 1 : Nat) : Int):=by omega
   rw [<- this]; exact r3
  ·rw [r4,q4,List.drop_eq_getElem_cons hil,E3,Nat.pow_succ]
   generalize (a[i]).toNat = X
   generalize E3 b = Y
   generalize E3 (a.drop (i + 1)) = Z
   generalize 10 ^ i = P
   rw [Nat.add_mul,Nat.add_mul,Nat.add_assoc]
   congr 2
   rw [Nat.mul_comm P 10,<- Nat.mul_assoc,Nat.mul_right_comm Z Y 10,Nat.mul_comm Z 10]
def We (a b : List Int) : List Int × Bool:=cond (gOk a) (cond (gOk b) (gR (E3 a * E3 b)) ([],false)) ([],false)
theorem LF {l : List Int} (h : gOk l = true) : l.length <= 60 ∧ ∀ e ∈ l,0 <= e ∧ e <= 9:=by
 obtain ⟨n,hn,rfl⟩:=UE.1 h
 exact ⟨I5 hn,Mn n⟩
theorem VM {a b : List Int} (ha : a.length <= lim) (hb : b.length <= lim) : E9 a b = some (We a b):=by
 unfold E9 We
 rw [Xg ha,AB]
 cases h1 : gOk a with
 | false => rfl
 | true =>
  rw [Bool.not_true,cond_false,cond_true,Xg hb,AB]
  cases h2 : gOk b with
  | false => rfl
  | true =>
   obtain ⟨l1,d1⟩:=LF h1
   obtain ⟨l2,d2⟩:=LF h2
   have hw : IntKind.i64.wrap ((a.length : Int) + (b.length : Int)) = ((a.length + b.length : Nat) : Int):=by rw [wrap_in (by omega)]; omega
   rw [Bool.not_true,cond_false,cond_true,hw,Ar (by unfold lim; omega),Int.toNat_natCast]
   obtain ⟨y,q1,q2,q3,q4⟩:=RY (B:=Em a b) d1 l1 l2 (fun rec y i => ⟨fun hi c hy hc h0 h9 => by
    obtain ⟨y',p1,p2,p3,p4⟩:=Vb (B:=En a b (i : Int)) (i:=i) (d1 _ (List.getElem_mem hi)) d2 (by omega) (fun rec y k hy2 => ⟨fun hk hyk => by
     simp only [En]
     rw [Az hk,cond_true,wrap_in (n:=(i : Int) + (k : Int)) (by omega),show (i : Int) + (k : Int) = ((i + k : Nat) : Int) by omega,Ai hyk,AB,Ai hi,AB,Ai hk,AB,AB,wrap_in (n:=(k : Int) + 1) (by omega)]
     rfl,fun hk => by
     simp only [En]
     rw [decide_eq_false (by omega),cond_false]⟩) b.length 0 y c fz (by omega) (by omega) (by omega) hc h0 (by omega) (by unfold fz; omega)
    refine ⟨y',?_,p2,fun e he => ?_,by rw [p4,List.drop_zero]; simp⟩
    ·simp only [Em]
     have p1' : Ah (En a b (i : Int)) fz (y,0) = some y':=p1
     rw [Az hi,cond_true,p1',AB,wrap_in (by omega)]; rfl
    ·have:=p3 e he; omega,fun hi => by
    simp only [Em]
    rw [decide_eq_false (by omega),cond_false]⟩) a.length 0 (List.replicate (a.length + b.length) 0) 0 fz (by omega) (by simp) (fun e he => by rw [(List.mem_replicate.1 he).2]; omega) (by omega) (by omega) (by unfold fz; omega)
   have q1' : Ah (Em a b) fz (List.replicate (a.length + b.length) 0,0) = some y:=q1
   rw [q1',AB,ZV (fun e he => by have:=q3 e he; omega) (by rw [q2,List.length_replicate]; omega),AB,q4,NT,List.drop_zero,Nat.pow_zero,Nat.mul_one,Nat.zero_add]
theorem UQ {a b : List Int} (ha : a.length <= lim) (hb : b.length <= lim) : E4 a b = some (We a b):=by
 unfold E4 We
 rw [WG ha,AB]
 cases h1 : gOk a with
 | false => rfl
 | true =>
  rw [Bool.not_true,cond_false,cond_true,WG hb,AB]
  cases h2 : gOk b with
  | false => rfl
  | true =>
   obtain ⟨l1,d1⟩:=LF h1
   obtain ⟨l2,d2⟩:=LF h2
   have hw : IntKind.i64.wrap ((a.length : Int) + (b.length : Int)) = ((a.length + b.length : Nat) : Int):=by rw [wrap_in (by omega)]; omega
   rw [Bool.not_true,cond_false,cond_true,hw,Ar (by unfold lim; omega),Int.toNat_natCast]
   obtain ⟨y,q1,q2,q3,q4⟩:=RY (B:=Ed a b) d1 l1 l2 (fun rec y i => ⟨fun hi c hy hc h0 h9 => by
    obtain ⟨y',p1,p2,p3,p4⟩:=Vb (B:=Ee b (i : Int) a[i]) (i:=i) (d1 _ (List.getElem_mem hi)) d2 (by omega) (fun rec y k hy2 => ⟨fun hk hyk => by
     simp only [Ee]
     rw [Az hk,cond_true,wrap_in (n:=(i : Int) + (k : Int)) (by omega),show (i : Int) + (k : Int) = ((i + k : Nat) : Int) by omega,Ai hk,AB,Ai hyk,AB,AB,wrap_in (n:=(k : Int) + 1) (by omega)]
     rfl,fun hk => by
     simp only [Ee]
     rw [decide_eq_false (by omega),cond_false]⟩) b.length 0 y c fz (by omega) (by omega) (by omega) hc h0 (by omega) (by unfold fz; omega)
    refine ⟨y',?_,p2,fun e he => ?_,by rw [p4,List.drop_zero]; simp⟩
    ·simp only [Ed]
     have p1' : Ah (Ee b (i : Int) a[i]) fz (y,0) = some y':=p1
     rw [Az hi,cond_true,Ai hi,AB,p1',AB,wrap_in (by omega)]; rfl
    ·have:=p3 e he; omega,fun hi => by
    simp only [Ed]
    rw [decide_eq_false (by omega),cond_false]⟩) a.length 0 (List.replicate (a.length + b.length) 0) 0 fz (by omega) (by simp) (fun e he => by rw [(List.mem_replicate.1 he).2]; omega) (by omega) (by omega) (by unfold fz; omega)
   have q1' : Ah (Ed a b) fz (List.replicate (a.length + b.length) 0,0) = some y:=q1
   rw [q1',AB,Y2 (fun e he => by have:=q3 e he; omega) (by rw [q2,List.length_replicate]; omega),AB,q4,NT,List.drop_zero,Nat.pow_zero,Nat.mul_one,Nat.zero_add]
def aj (m n : Nat) : Int:=cond (decide (m < n)) (-1) (cond (decide (n < m)) 1 0)
theorem NS : ∀ (l : List Int) (i : Nat) (hi : i < l.length),E3 (l.take (i + 1)) = E3 (l.take i) + (l[i]).toNat * 10 ^ i
 | [],i,hi => by simp at hi
 | d :: l,0,hi => by simp [E3]
 | d :: l,i + 1,hi => by
  simp only [List.take_succ_cons,E3,List.getElem_cons_succ]
  rw [NS l i (by simpa using hi),Nat.pow_succ,Nat.mul_add,Nat.add_assoc]
  congr 2
  rw [Nat.mul_comm (10 ^ i) 10,<- Nat.mul_assoc,<- Nat.mul_assoc,Nat.mul_comm 10]
theorem Mp : ∀ (l : List Int) (i : Nat),(∀ e ∈ l,0 <= e ∧ e <= 9) -> E3 (l.take i) < 10 ^ i
 | l,0,_ => by rw [List.take_zero,E3,Nat.pow_zero]; omega
 | [],i + 1,_ => by rw [List.take_nil,E3]; exact Nat.pow_pos (by omega)
 | d :: l,i + 1,h => by
  have h1:=h d (List.mem_cons_self ..)
  have h2:=Mp l i fun e he => h e (List.mem_cons_of_mem _ he)
  rw [List.take_succ_cons,E3,Nat.pow_succ]; omega
theorem Px {B : (Int -> Option (Sum Unit Int)) -> Int -> Option (Sum Unit Int)} {a b : List Int} (ha : ∀ e ∈ a,0 <= e ∧ e <= 9) (hb : ∀ e ∈ b,0 <= e ∧ e <= 9) (hl : a.length = b.length) (hl2 : a.length <= 60)
  (hB : ∀ rec (i : Nat) (h1 : i < a.length) (h2 : i < b.length),B rec (i : Int) = cond (decide (a[i] < b[i])) (some (.inr (-1))) (cond (decide (b[i] < a[i])) (some (.inr 1)) (rec ((i : Int) - 1)))) (h0 : ∀ rec,B rec (-1) = some (.inl ())) :
  ∀ (j f : Nat),j <= a.length -> j < f -> Ah B f ((j : Int) - 1) = some (cond (decide (E3 (a.take j) < E3 (b.take j))) (.inr (-1)) (cond (decide (E3 (b.take j) < E3 (a.take j))) (.inr 1) (.inl ())))
 | 0,f,_,hf => by
  obtain ⟨f,rfl⟩ : ∃ g,f = g + 1:=⟨f - 1,by omega⟩
  rw [AD,show ((0 : Nat) : Int) - 1 = -1 from rfl,h0]; rfl
 | j + 1,f,hj,hf => by
  obtain ⟨f,rfl⟩ : ∃ g,f = g + 1:=⟨f - 1,by omega⟩
  have hja : j < a.length:=by omega
  have hjb : j < b.length:=by omega
  have d1:=ha _ (List.getElem_mem hja)
  have d2:=hb _ (List.getElem_mem hjb)
  have v1:=Mp a j ha
  have v2:=Mp b j hb
  rw [AD,show ((j + 1 : Nat) : Int) - 1 = (j : Int) by omega,hB _ j hja hjb,NS a j hja,NS b j hjb]
  generalize hx : a[j] = x at d1
  generalize hy : b[j] = y at d2
  obtain ⟨x,rfl⟩ : ∃ n : Nat,x = (n : Int):=⟨x.toNat,by omega⟩
  obtain ⟨y,rfl⟩ : ∃ n : Nat,y = (n : Int):=⟨y.toNat,by omega⟩
  rw [Int.toNat_natCast,Int.toNat_natCast]
  rcases Nat.lt_trichotomy x y with h | h | h
  ·have : (x + 1) * 10 ^ j <= y * 10 ^ j:=Nat.mul_le_mul_right _ h
   rw [Nat.add_mul,Nat.one_mul] at this
   rw [decide_eq_true (show (x : Int) < (y : Int) by omega),decide_eq_true (show E3 (a.take j) + x * 10 ^ j < E3 (b.take j) + y * 10 ^ j by omega)]; rfl
  ·subst h
   rw [decide_eq_false (show ¬ (x : Int) < (x : Int) by omega),cond_false,cond_false,Px ha hb hl hl2 hB h0 j f (by omega) (by omega)]
   have e1 : decide (E3 (a.take j) + x * 10 ^ j < E3 (b.take j) + x * 10 ^ j) = decide (E3 (a.take j) < E3 (b.take j)):=by rw [decide_eq_decide]; omega
   have e2 : decide (E3 (b.take j) + x * 10 ^ j < E3 (a.take j) + x * 10 ^ j) = decide (E3 (b.take j) < E3 (a.take j)):=by rw [decide_eq_decide]; omega
   rw [e1,e2]
  ·have : (y + 1) * 10 ^ j <= x * 10 ^ j:=Nat.mul_le_mul_right _ h
   rw [Nat.add_mul,Nat.one_mul] at this
   rw [decide_eq_false (show ¬ (x : Int) < (y : Int) by omega),decide_eq_true (show (y : Int) < (x : Int) by omega),decide_eq_false (show ¬ E3 (a.take j) + x * 10 ^ j < E3 (b.take j) + y * 10 ^ j by omega),decide_eq_true (show E3 (b.take j) + y * 10 ^ j < E3 (a.take j) + x * 10 ^ j by omega)]; rfl
theorem SM {m n : Nat} (h : (CV m).length < (CV n).length) : m < n:=by
 have h1:=(Is (CV m).length m).1 (Nat.le_refl _)
 have h2 : ¬ n < 10 ^ (CV m).length:=fun hh => by have:=(Is _ n).2 hh; omega
 omega
theorem Yn {m n : Nat} (hm : m < 10 ^ 60) (hn : n < 10 ^ 60) : Do (CV m) (CV n) = some (aj m n):=by
 have l1:=I5 hm
 have l2:=I5 hn
 unfold Do aj
 rw [Xg (U5 l1),AB,Mo hm,Bool.not_true,cond_false,Xg (U5 l2),AB,Mo hn,Bool.not_true,cond_false]
 rcases Nat.lt_trichotomy (CV m).length (CV n).length with h | h | h
 ·rw [show (((CV m).length : Int) != ((CV n).length : Int)) = true by rw [bne_iff_ne]; omega,cond_true,decide_eq_true (by omega),decide_eq_true (SM h)]; rfl
 ·have key:=Px (B:=Db (CV m) (CV n)) (Mn m) (Mn n) h l1 (fun rec i h1 h2 => by
   simp only [Db]
   rw [decide_eq_true (by omega : (0 : Int) <= (i : Int)),cond_true,Ai h1,AB,Ai h2,AB,AB,AB,wrap_in (by omega)]) (fun rec => by simp only [Db]; rfl) (CV m).length fz (Nat.le_refl _) (by unfold fz; omega)
  rw [List.take_length,h,List.take_length,KE,KE] at key
  rw [show (((CV m).length : Int) != ((CV n).length : Int)) = false by rw [bne_eq_false_iff_eq]; omega,cond_false,wrap_in (by omega),h,key,AB]
  cases decide (m < n) <;> cases decide (n < m) <;> rfl
 ·have:=SM h
  rw [show (((CV m).length : Int) != ((CV n).length : Int)) = true by rw [bne_iff_ne]; omega,cond_true,decide_eq_false (by omega),decide_eq_false (by omega),decide_eq_true this]; rfl
theorem bf {m n : Nat} (hm : m < 10 ^ 60) (hn : n < 10 ^ 60) : Es (CV m) (CV n) = some (aj m n):=by
 have l1:=I5 hm
 have l2:=I5 hn
 unfold Es aj
 rw [WG (U5 l1),AB,Mo hm,Bool.not_true,cond_false,WG (U5 l2),AB,Mo hn,Bool.not_true,cond_false]
 rcases Nat.lt_trichotomy (CV m).length (CV n).length with h | h | h
 ·rw [show (((CV m).length : Int) != ((CV n).length : Int)) = true by rw [bne_iff_ne]; omega,cond_true,Pb,AB,if_pos (by omega),decide_eq_true (SM h)]; rfl
 ·have key:=Px (B:=C2 (CV m) (CV n)) (Mn m) (Mn n) h l1 (fun rec i h1 h2 => by
   simp only [C2]
   rw [decide_eq_true (by omega : (0 : Int) <= (i : Int)),cond_true,Ai h1,AB,Ai h2,AB,AB,AB,Pb,AB,wrap_in (by omega)]
   rcases Int.lt_trichotomy (CV m)[i] (CV n)[i] with q | q | q
   ·rw [show ((CV m)[i] != (CV n)[i]) = true by rw [bne_iff_ne]; omega,decide_eq_true q,if_pos q]; rfl
   ·rw [show ((CV m)[i] != (CV n)[i]) = false by rw [bne_eq_false_iff_eq]; omega,decide_eq_false (by omega),decide_eq_false (by omega)]; rfl
   ·rw [show ((CV m)[i] != (CV n)[i]) = true by rw [bne_iff_ne]; omega,decide_eq_false (by omega),decide_eq_true q,if_neg (by omega),if_pos q]; rfl) (fun rec => by simp only [C2]; rfl) (CV m).length fz (Nat.le_refl _) (by unfold fz; omega)
  rw [List.take_length,h,List.take_length,KE,KE] at key
  rw [show (((CV m).length : Int) != ((CV n).length : Int)) = false by rw [bne_eq_false_iff_eq]; omega,cond_false,wrap_in (by omega),h,key,AB]
  cases decide (m < n) <;> cases decide (n < m) <;> rfl
 ·have:=SM h
  rw [show (((CV m).length : Int) != ((CV n).length : Int)) = true by rw [bne_iff_ne]; omega,cond_true,Pb,AB,if_neg (by omega),if_pos (by omega),decide_eq_false (by omega),decide_eq_true this]; rfl
end Go.Proofs.YtkclaipnejgloaaGreatDoor
