/-
 Covers, powers and the bounds of a certificate: the reference and the program agree. On the printed functions; conditions: lengths, numbers in range.
-/
import Derived.Test.YtkclaipnejgloaaGreatDoorBgIF1
import Derived.Test.YtkclaipnejgloaaGreatDoorQfIF1
namespace Go.Proofs.YtkclaipnejgloaaGreatDoor
open Go.RowKit
set_option linter.unusedVariables false
set_option linter.unusedSimpArgs false
theorem Ut {O : Type} {B : (Int -> Option (Sum Unit O)) -> Int -> Option (Sum Unit O)} {n : Nat} (bad : Nat -> Bool) (o : O) (hn : n <= lim) (h1 : ∀ k,k < n -> ∀ rec,B rec (k : Int) = cond (bad k) (some (.inr o)) (rec ((k + 1 : Nat) : Int))) (h2 : ∀ rec,B rec (n : Int) = some (.inl ())) :
  Ah B fz 0 = some (cond ((List.range n).any bad) (.inr o) (.inl ())):=by
 have key : ∀ d k,k + d = n -> (∀ j,j < k -> bad j = false) -> ∀ m,d < m -> Ah B m (k : Int) = some (cond ((List.range n).any bad) (.inr o) (.inl ())):=by
  intro d
  induction d with
  | zero =>
   intro k hk hb m hm
   obtain ⟨m,rfl⟩ : ∃ g,m = g + 1:=⟨m - 1,by omega⟩
   have : (List.range n).any bad = false:=by
    rw [List.any_eq_false]
    intro x hx
    rw [hb x (by have:=List.mem_range.1 hx; omega)]; simp
   rw [AD,show k = n by omega,h2,this]; rfl
  | succ d ih =>
   intro k hk hb m hm
   obtain ⟨m,rfl⟩ : ∃ g,m = g + 1:=⟨m - 1,by omega⟩
   rw [AD,h1 k (by omega)]
   cases hbk : bad k with
   | true =>
    have : (List.range n).any bad = true:=by rw [List.any_eq_true]; exact ⟨k,List.mem_range.2 (by omega),hbk⟩
    rw [this]; rfl
   | false =>
    exact ih (k + 1) (by omega) (fun j hj => by
     rcases Nat.lt_or_ge j k with h | h
     ·exact hb j h
     ·rw [show j = k by omega]; exact hbk) m (by omega)
 have:=key n 0 (by omega) (fun j hj => absurd hj (by omega)) fz (FZ hn)
 simpa using this
def wOk (r : Rt) : Bool:=rOk r && (decide (0 <= r.1) && (decide (r.1 <= 1000) && decide (r.2 <= 1000)))
theorem Z1 {w : List Rt} (h : w.length <= lim) (n : Int) : Hv w n = some (!Ay w (fun _ r => !wOk r) && ((w.length : Int) == n)):=by
 unfold Hv
 rw [Bh (fun k => atB w k fun r => !wOk r) h (fun k hk rec => by
  unfold Hb
  simp only [Ai hk,AB,R8]
  rw [Az hk,cond_true,AF hk (Au h),AN hk]
  unfold wOk
  cases rOk w[k] with
  | false => rfl
  | true =>
   by_cases h1 : 0 <= w[k].1
   ·rw [decide_eq_true h1,decide_eq_false (by omega : ¬ w[k].1 < 0)]
    by_cases h2 : w[k].1 <= 1000
    ·rw [decide_eq_true h2,decide_eq_false (by omega : ¬ 1000 < w[k].1)]
     by_cases h3 : w[k].2 <= 1000
     ·rw [decide_eq_true h3,decide_eq_false (by omega : ¬ 1000 < w[k].2)]; rfl
     ·rw [decide_eq_false h3,decide_eq_true (by omega : 1000 < w[k].2)]; rfl
    ·rw [decide_eq_false h2,decide_eq_true (by omega : 1000 < w[k].1)]; rfl
   ·rw [decide_eq_false h1,decide_eq_true (by omega : w[k].1 < 0)]; rfl) (fun rec => by unfold Hb; rw [Ax,cond_false]),AB]
 show (match cond (Ay w fun _ r => !wOk r) (Sum.inr false) (Sum.inl ()) with | .inl _ => _ | .inr r => some r) = _
 cases Ay w fun _ r => !wOk r <;> rfl
theorem gi {w : List Rt} (h : w.length <= lim) : Gc w = some (!Ay w (fun _ r => !wOk r)):=by
 unfold Gc
 rw [Bh (fun k => atB w k fun r => !wOk r) h (fun k hk rec => by
  unfold F5
  simp only [Ai hk,AB,UT,Fb]
  rw [Az hk,cond_true,AF hk (Au h),AN hk]
  unfold wOk btw
  cases rOk w[k] with
  | false => rfl
  | true =>
   by_cases h1 : 0 <= w[k].1
   ·rw [decide_eq_true h1]
    by_cases h2 : w[k].1 <= 1000
    ·rw [decide_eq_true h2]
     by_cases h3 : w[k].2 <= 1000
     ·rw [decide_eq_true h3,decide_eq_false (by omega : ¬ 1000 < w[k].2)]; rfl
     ·rw [decide_eq_false h3,decide_eq_true (by omega : 1000 < w[k].2)]; rfl
    ·rw [decide_eq_false h2]; rfl
   ·rw [decide_eq_false h1]; rfl) (fun rec => by unfold F5; rw [Ax,cond_false]),AB]
 show (match cond (Ay w fun _ r => !wOk r) (Sum.inr false) (Sum.inl ()) with | .inl _ => _ | .inr r => some r) = _
 cases Ay w fun _ r => !wOk r <;> rfl
def Oc : Rt -> List Rt -> Rt × Bool
 | x,[] => (x,true)
 | x,r :: l => cond (TZ x r).2 (Oc (TZ x r).1 l) ((0,0),false)
abbrev SmB:=((Int × Int × Int) -> Option (Sum (Int × Int) (Rt × Bool))) -> (Int × Int × Int) -> Option (Sum (Int × Int) (Rt × Bool))
theorem Qn {B : SmB} {l : List Rt} (h1 : ∀ rec (x : Rt) k (hk : k < l.length),B rec (x.1,x.2,(k : Int)) = cond (!(TZ x l[k]).2) (some (.inr ((0,0),false))) (rec ((TZ x l[k]).1.1,(TZ x l[k]).1.2,((k + 1 : Nat) : Int)))) (h2 : ∀ rec (x : Rt),B rec (x.1,x.2,(l.length : Int)) = some (.inl (x.1,x.2))) :
  ∀ (j k : Nat) (x : Rt) (f : Nat),k + j = l.length -> j < f -> Ah B f (x.1,x.2,(k : Int)) = some (cond (Oc x (l.drop k)).2 (.inl (Oc x (l.drop k)).1) (.inr ((0,0),false)))
 | 0,k,x,f,hk,hf => by
  obtain ⟨f,rfl⟩ : ∃ g,f = g + 1:=⟨f - 1,by omega⟩
  obtain rfl : k = l.length:=by omega
  rw [AD,h2,List.drop_length]; rfl
 | j + 1,k,x,f,hk,hf => by
  obtain ⟨f,rfl⟩ : ∃ g,f = g + 1:=⟨f - 1,by omega⟩
  have hlt : k < l.length:=by omega
  rw [AD,h1 _ x k hlt,List.drop_eq_getElem_cons hlt,Oc]
  cases hb : (TZ x l[k]).2 with
  | false => rfl
  | true =>
   rw [Bool.not_true,cond_false,cond_true]
   exact Qn h1 h2 j (k + 1) (TZ x l[k]).1 f (by omega) (by omega)
def Yj (l : List Rt) : Rt × Bool:=Oc (0,1) l
theorem P5 : ∀ (l : List Rt) (x : Rt),(Oc x l).2 = false -> Oc x l = ((0,0),false)
 | [],x,h => by rw [Oc] at h; cases h
 | r :: l,x,h => by
  rw [Oc] at h ⊢
  cases hb : (TZ x r).2 with
  | false => rfl
  | true => rw [hb,cond_true] at h; rw [cond_true]; exact P5 l _ h
theorem jK {l : List Rt} (h : l.length <= lim) : Fx l = some (Yj l):=by
 unfold Fx Yj
 have key:=Qn (B:=CS l) (l:=l) (fun rec x k hk => by
  simp only [CS]
  rw [Az hk,cond_true,Ai hk,AB,dJ,AB,AF hk (Au h)]) (fun rec x => by simp only [CS]; rw [Ax,cond_false]) l.length 0 (0,1) fz (by omega) (FZ h)
 have key' : Ah (CS l) fz (0,1,0) = _:=key
 rw [key',AB,List.drop_zero]
 cases hb : (Oc (0,1) l).2 with
 | true => exact congrArg some (Prod.ext rfl hb.symm)
 | false => rw [P5 _ _ hb]; rfl
theorem gp {l : List Rt} (h : l.length <= lim) : Fk l = some (Yj l):=by
 unfold Fk Yj
 have key:=Qn (B:=CK l) (l:=l) (fun rec x k hk => by
  simp only [CK]
  rw [Az hk,cond_true,Ai hk,AB,bh,AB,AF hk (Au h)]) (fun rec x => by simp only [CK]; rw [Ax,cond_false]) l.length 0 (0,1) fz (by omega) (FZ h)
 have key' : Ah (CK l) fz (0,1,0) = _:=key
 rw [key',AB,List.drop_zero]
 cases hb : (Oc (0,1) l).2 with
 | true => exact congrArg some (Prod.ext rfl hb.symm)
 | false => rw [P5 _ _ hb]; rfl
def Sx (p : List (Atm × Rt)) (v : Int) : List Rt:=(p.filter fun x => x.1.2.contains v).map (·.2)
theorem Ul (p : List (Atm × Rt)) (x : Atm × Rt) (v : Int) : Sx (p ++ [x]) v = cond (x.1.2.contains v) (Sx p v ++ [x.2]) (Sx p v):=by
 unfold Sx
 rw [List.filter_append,List.map_append]
 cases h : x.1.2.contains v with
 | true => rw [List.filter_cons,if_pos h]; rfl
 | false => rw [List.filter_cons,if_neg (by rw [h]; simp)]; simp
theorem PB (p : List (Atm × Rt)) (v : Int) : (Sx p v).length <= p.length:=by
 unfold Sx; rw [List.length_map]; exact List.length_filter_le ..
theorem Sy {B : (List Rt × Int -> Option (List Rt)) -> List Rt × Int -> Option (List Rt)} {p : List (Atm × Rt)} {v : Int} (hl : p.length <= lim)
  (h1 : ∀ rec (y : List Rt) k (hk : k < p.length),y.length + 1 <= lim -> B rec (y,(k : Int)) = cond (p[k].1.2.contains v) (rec (y ++ [p[k].2],((k + 1 : Nat) : Int))) (rec (y,((k + 1 : Nat) : Int)))) (h2 : ∀ rec (y : List Rt),B rec (y,(p.length : Int)) = some y) : Ah B fz ([],0) = some (Sx p v):=by
 have:=B8 (body:=B) (out:=Sx p v) (fun k => (Sx (p.take k) v,(k : Int))) p.length (fun k hk rec => by
  have hc:=PB (p.take k) v
  rw [List.length_take] at hc
  rw [h1 rec _ k hk (by omega),List.take_succ_eq_append_getElem hk,Ul]
  cases p[k].1.2.contains v <;> rfl) (fun rec => by rw [h2,List.take_length]) fz (FZ hl)
 simpa [Sx] using this
def NA (p : List (Atm × Rt)) (v : Int) : Bool := !(Yj (Sx p v)).2 || decide (dz (Yj (Sx p v)).1 (1,1) < 0)
def NB (q : Qry) (w : List Rt) : Bool:=Ki q && (((w.length : Int) == (q.2.1.length : Int)) && (!Ay w (fun _ r => !wOk r) && !((List.range q.1.toNat).any fun v => NA (q.2.1.zip w) (v : Int))))
theorem Xf {q : Qry} {w : List Rt} (hq : smQ q) (h : w.length <= lim) (hcv : ∀ a : Atm,a.2.length <= lim -> ∀ v,AQ a v = some (a.2.contains v)) : Dc q w = some (NB q w):=by
 unfold Dc NB
 rw [MI hq,AB]
 cases hv : Ki q with
 | false => rfl
 | true =>
  have hn:=LZ hv
  rw [Bool.not_true,cond_false,Z1 h,AB,Bool.true_and]
  cases hl : ((w.length : Int) == (q.2.1.length : Int)) with
  | false => rw [Bool.and_false]; rfl
  | true =>
   rw [beq_iff_eq] at hl
   cases hb : Ay w fun _ r => !wOk r with
   | true => rfl
   | false =>
    simp only [Bool.not_false,Bool.and_true,Bool.true_and,Bool.not_true,cond_false]
    have hz : (q.2.1.zip w).length = q.2.1.length:=by rw [List.length_zip]; omega
    rw [Bh (n:=q.1.toNat) (fun v => NA (q.2.1.zip w) (v : Int)) (by unfold lim; omega) (fun v hvl rec => by
     unfold Dx
     rw [decide_eq_true (by omega),cond_true,Sy (p:=q.2.1.zip w) (v:=(v : Int)) (by rw [hz]; exact hq.1) (fun rec y k hk hy => by
      have hk1 : k < q.2.1.length:=by omega
      have hk2 : k < w.length:=by omega
      simp only [Ca,Cb]
      rw [Az hk2,cond_true,Ai hk1,AB,hcv _ (hq.2.1 _ (List.getElem_mem hk1)).2,AB,Ai hk2,AB,Ar (by rw [List.length_singleton]; exact hy),AF hk2 (Au h),List.getElem_zip]) (fun rec y => by
      simp only [Ca]
      rw [hz,show (q.2.1.length : Int) = (w.length : Int) by omega,Ax,cond_false]),AB,jK (Nat.le_trans (PB _ _) (by rw [hz]; exact hq.1)),AB,dK,AB,wrap_in (by omega)]
     unfold NA
     cases (Yj (Sx (q.2.1.zip w) (v : Int))).2 with
     | false => rfl
     | true => simp only [Bool.not_true,cond_false,Bool.false_or]; rfl) (fun rec => by
     unfold Dx
     rw [decide_eq_false (by omega),cond_false]),AB]
    cases (List.range q.1.toNat).any fun v => NA (q.2.1.zip w) (v : Int) <;> rfl
theorem WF {q : Qry} {w : List Rt} (hq : smQ q) (h : w.length <= lim) (hcv : ∀ a : Atm,a.2.length <= lim -> ∀ v,AP a v = some (a.2.contains v)) : C3 q w = some (NB q w):=by
 unfold C3 NB
 rw [NU hq,AB]
 cases hv : Ki q with
 | false => rfl
 | true =>
  have hn:=LZ hv
  rw [Bool.not_true,cond_false,Bool.true_and,bne]
  cases hl : ((w.length : Int) == (q.2.1.length : Int)) with
  | false => rfl
  | true =>
   rw [beq_iff_eq] at hl
   rw [Bool.not_true,cond_false,gi h,AB]
   cases hb : Ay w fun _ r => !wOk r with
   | true => rfl
   | false =>
    simp only [Bool.not_false,Bool.and_true,Bool.true_and,Bool.not_true,cond_false]
    have hz : (q.2.1.zip w).length = q.2.1.length:=by rw [List.length_zip]; omega
    rw [Bh (n:=q.1.toNat) (fun v => NA (q.2.1.zip w) (v : Int)) (by unfold lim; omega) (fun v hvl rec => by
     unfold Dt
     rw [decide_eq_true (by omega),cond_true,Sy (p:=q.2.1.zip w) (v:=(v : Int)) (by rw [hz]; exact hq.1) (fun rec y k hk hy => by
      have hk1 : k < q.2.1.length:=by omega
      have hk2 : k < w.length:=by omega
      simp only [B6,B7]
      rw [Az hk1,cond_true,Ai hk1,AB,hcv _ (hq.2.1 _ (List.getElem_mem hk1)).2,AB,Ai hk2,AB,Ar (by rw [List.length_singleton]; exact hy),AF hk1 (Au hq.1),List.getElem_zip]) (fun rec y => by
      simp only [B6]
      rw [hz,Ax,cond_false]),AB,gp (Nat.le_trans (PB _ _) (by rw [hz]; exact hq.1)),AB,bj,AB,wrap_in (by omega)]
     unfold NA
     cases (Yj (Sx (q.2.1.zip w) (v : Int))).2 with
     | false => rfl
     | true => simp only [Bool.not_true,cond_false,Bool.false_or]; rfl) (fun rec => by
     unfold Dt
     rw [decide_eq_false (by omega),cond_false]),AB]
    cases (List.range q.1.toNat).any fun v => NA (q.2.1.zip w) (v : Int) <;> rfl
def Tj (r : Rt) : Bool:=rOk r && decide (0 <= r.1)
def scN (d : Int) (r : Rt) : Int:=d.tdiv (Nat.gcd d.natAbs r.2.natAbs : Nat) * r.2
def scD : Int -> List Rt -> Option Int
 | d,[] => some d
 | d,r :: l => cond (decide (1000 < scN d r)) none (scD (scN d r) l)
theorem Ys {d : Int} {r : Rt} (hd : 1 <= d ∧ d <= 1000) (hr : rOk r = true) : IntKind.i64.wrap (d.tdiv (Nat.gcd d.natAbs r.2.natAbs : Nat)) = d.tdiv (Nat.gcd d.natAbs r.2.natAbs : Nat) ∧ IntKind.i64.wrap (scN d r) = scN d r ∧ 1 <= scN d r:=by
 have f:=IT hr
 obtain ⟨n,rfl⟩ : ∃ n : Nat,d = (n : Int):=⟨d.toNat,by omega⟩
 obtain ⟨m,hm⟩ : ∃ m : Nat,r.2 = (m : Int):=⟨r.2.toNat,by omega⟩
 unfold scN
 rw [hm,Int.natAbs_natCast,Int.natAbs_natCast]
 have hg : 0 < Nat.gcd n m:=Nat.gcd_pos_of_pos_left _ (by omega)
 have e1 : Int.tdiv (n : Int) ((Nat.gcd n m : Nat) : Int) = ((n / Nat.gcd n m : Nat) : Int):=rfl
 have h1 : n / Nat.gcd n m <= n:=Nat.div_le_self _ _
 have h2 : 1 <= n / Nat.gcd n m:=Nat.div_pos (Nat.le_of_dvd (by omega) (Nat.gcd_dvd_left n m)) hg
 have h3 : n / Nat.gcd n m * m <= 1000 * 1000000000:=Nat.mul_le_mul (by omega) (by omega)
 have h4 : 1 * 1 <= n / Nat.gcd n m * m:=Nat.mul_le_mul h2 (by omega)
 have e2 : ((n / Nat.gcd n m : Nat) : Int) * (m : Int) = ((n / Nat.gcd n m * m : Nat) : Int):=by simp
 rw [e1,e2]
 exact ⟨wrap_in (by omega),wrap_in (by omega),by omega⟩
def Q5 (d : Int) (l : List Rt) : Sum Int (List Int × Int):=cond (Ay l fun _ r => !Tj r) (.inr ([],0)) (match scD d l with | none => .inr ([],0) | some d => .inl d)
theorem Rv {α : Type} (x : α) (l : List α) (f : α -> Bool) : Ay (x :: l) (fun _ e => f e) = (f x || Ay l fun _ e => f e):=by
 unfold Ay
 rw [List.length_cons,List.range_succ_eq_map,List.any_cons,List.any_map]
 congr 1
theorem dP {w : List Rt} (h : w.length <= lim) : ∀ (j k : Nat) (d : Int) (f : Nat),k + j = w.length -> 1 <= d ∧ d <= 1000 -> j < f -> Ah (BL w) f (d,(k : Int)) = some (Q5 d (w.drop k))
 | 0,k,d,f,hk,hd,hf => by
  obtain ⟨f,rfl⟩ : ∃ g,f = g + 1:=⟨f - 1,by omega⟩
  rw [AD,List.drop_of_length_le (by omega),BL,decide_eq_false (by omega),cond_false]; rfl
 | j + 1,k,d,f,hk,hd,hf => by
  obtain ⟨f,rfl⟩ : ∃ g,f = g + 1:=⟨f - 1,by omega⟩
  have hlt : k < w.length:=by omega
  rw [AD,List.drop_eq_getElem_cons hlt,Q5,Rv]
  simp only [BL,Ai hlt,AB,R8]
  rw [Az hlt,cond_true,AF hlt (Au h)]
  unfold Tj
  cases hr : rOk w[k] with
  | false => rfl
  | true =>
   by_cases h0 : 0 <= w[k].1
   ·have f0:=IT hr
    obtain ⟨e1,e2,e3⟩:=Ys hd hr
    have hg:=ZX d.natAbs w[k].2.natAbs (by omega)
    rw [show ((d.natAbs : Nat) : Int) = d by omega,show ((w[k].2.natAbs : Nat) : Int) = w[k].2 by omega] at hg
    have hp : 0 < Nat.gcd d.natAbs w[k].2.natAbs:=Nat.gcd_pos_of_pos_left _ (by omega)
    have e2' : IntKind.i64.wrap (d.tdiv ((Nat.gcd d.natAbs w[k].2.natAbs : Nat) : Int) * w[k].2) = scN d w[k]:=e2
    rw [decide_eq_true h0,decide_eq_false (by omega : ¬ w[k].1 < 0),Bool.not_true,cond_false,cond_false,hg,AB,Ar (by omega),e1,e2',scD]
    by_cases hb : 1000 < scN d w[k]
    ·rw [decide_eq_true hb]
     simp only [cond_true,Bool.true_and,Bool.not_true,Bool.false_or]
     cases Ay (w.drop (k + 1)) fun _ e => !(rOk e && decide (0 <= e.1)) <;> rfl
    ·rw [decide_eq_false hb,cond_false,cond_false,dP h j (k + 1) (scN d w[k]) f (by omega) ⟨e3,by omega⟩ (by omega)]
     simp only [Bool.true_and,Bool.not_true,Bool.false_or]
     rfl
   ·rw [decide_eq_false h0,decide_eq_true (by omega : w[k].1 < 0)]; rfl
theorem bp {w : List Rt} (h : w.length <= lim) (hv : ∀ r ∈ w,Tj r = true) : ∀ (j k : Nat) (d : Int) (f : Nat),k + j = w.length -> 1 <= d ∧ d <= 1000 -> j < f -> Ah (BH w) f (d,(k : Int)) = some (match scD d (w.drop k) with | none => .inr ([],0) | some d => .inl d)
 | 0,k,d,f,hk,hd,hf => by
  obtain ⟨f,rfl⟩ : ∃ g,f = g + 1:=⟨f - 1,by omega⟩
  rw [AD,List.drop_of_length_le (by omega),BH,decide_eq_false (by omega),cond_false]; rfl
 | j + 1,k,d,f,hk,hd,hf => by
  obtain ⟨f,rfl⟩ : ∃ g,f = g + 1:=⟨f - 1,by omega⟩
  have hlt : k < w.length:=by omega
  have hr : rOk w[k] = true:=by
   have:=hv _ (List.getElem_mem hlt)
   unfold Tj at this
   rw [Bool.and_eq_true] at this; exact this.1
  have f0:=IT hr
  obtain ⟨e1,e2,e3⟩:=Ys hd hr
  have hg:=Y3 d.natAbs w[k].2.natAbs (by omega)
  rw [show ((d.natAbs : Nat) : Int) = d by omega,show ((w[k].2.natAbs : Nat) : Int) = w[k].2 by omega] at hg
  have hp : 0 < Nat.gcd d.natAbs w[k].2.natAbs:=Nat.gcd_pos_of_pos_left _ (by omega)
  have e2' : IntKind.i64.wrap (d.tdiv ((Nat.gcd d.natAbs w[k].2.natAbs : Nat) : Int) * w[k].2) = scN d w[k]:=e2
  rw [AD,List.drop_eq_getElem_cons hlt]
  simp only [BH,Ai hlt,AB]
  rw [Az hlt,cond_true,AF hlt (Au h),hg,AB,Ar (by omega),e1,e2',scD]
  by_cases hb : 1000 < scN d w[k]
  ·rw [decide_eq_true hb]; rfl
  ·rw [decide_eq_false hb,cond_false,cond_false]
   exact bp h hv j (k + 1) (scN d w[k]) f (by omega) ⟨e3,by omega⟩ (by omega)
def scI (d : Int) (r : Rt) : Int:=IntKind.i64.wrap (r.1 * IntKind.i64.wrap (Int.tdiv d r.2))
def scR (w : List Rt) : List Int × Int:=match Q5 1 w with
 | .inl d => (w.map (scI d),d)
 | .inr r => r
theorem Xj {w : List Rt} {d : Int} (h : Q5 1 w = .inl d) : ∀ r ∈ w,Tj r = true:=fun r hr => by
 unfold Q5 at h
 cases hb : Ay w fun _ r => !Tj r with
 | true => rw [hb] at h; cases h
 | false => simpa using Ix hb hr
theorem VO {w : List Rt} (h : w.length <= lim) : CR w = some (scR w):=by
 unfold CR scR
 have key:=dP h w.length 0 1 fz (by omega) (by omega) (FZ h)
 have key' : Ah (BL w) fz (1,0) = some (Q5 1 w):=key
 rw [key',AB]
 cases hs : Q5 1 w with
 | inr r => rfl
 | inl d =>
  have hv:=Xj hs
  simp only
  rw [G8 (a:=w) (h:=scI d) h (fun k hk rec => by
   have hr : rOk w[k] = true:=by
    have:=hv _ (List.getElem_mem hk)
    unfold Tj at this
    rw [Bool.and_eq_true] at this; exact this.1
   have f0:=IT hr
   simp only [D7]
   rw [Az hk,cond_true,Ai hk,AB,AB,Ar (by omega),Ar (by simp only [List.length_map,List.length_take,List.length_singleton]; omega),AF hk (Au h)]
   rfl) (fun rec y => by simp only [D7]; rw [Ax,cond_false]),AB]
theorem Y8 {w : List Rt} (h : w.length <= lim) : DU w = some (scR w):=by
 unfold DU scR
 rw [Ut (n:=w.length) (fun k => atB w k fun r => !Tj r) (([] : List Int),(0 : Int)) h (fun k hk rec => by
  unfold D3
  rw [Az hk,cond_true,Ai hk,AB,UT,AB,AF hk (Au h),AN hk]
  unfold Tj
  cases rOk w[k] with
  | false => rfl
  | true =>
   by_cases h0 : 0 <= w[k].1
   ·rw [decide_eq_true h0,decide_eq_false (by omega : ¬ w[k].1 < 0)]; rfl
   ·rw [decide_eq_false h0,decide_eq_true (by omega : w[k].1 < 0)]; rfl) (fun rec => by unfold D3; rw [Ax,cond_false]),AB]
 have e : ((List.range w.length).any fun k => atB w k fun r => !Tj r) = Ay w fun _ r => !Tj r:=rfl
 rw [e]
 unfold Q5
 cases hb : Ay w fun _ r => !Tj r with
 | true => rfl
 | false =>
  have hv : ∀ r ∈ w,Tj r = true:=fun r hr => by simpa using Ix hb hr
  have key:=bp h hv w.length 0 1 fz (by omega) (by omega) (FZ h)
  have key' : Ah (BH w) fz (1,0) = some (match scD 1 w with | none => .inr ([],0) | some d => .inl d):=key
  simp only [cond_false]
  rw [key',AB]
  cases scD 1 w with
  | none => rfl
  | some d =>
   simp only
   rw [G8 (a:=w) (h:=scI d) h (fun k hk rec => by
    have hr : rOk w[k] = true:=by
     have:=hv _ (List.getElem_mem hk)
     unfold Tj at this
     rw [Bool.and_eq_true] at this; exact this.1
    have f0:=IT hr
    simp only [D4]
    rw [Az hk,cond_true,Ai hk,AB,Ar (by omega),Ar (by simp only [List.length_map,List.length_take,List.length_singleton]; omega),AF hk (Au h)]
    rfl) (fun rec y => by simp only [D4]; rw [Ax,cond_false]),AB]
def toR : Option Nat -> List Int × Bool
 | some v => (CV v,true)
 | none => ([],false)
def cap (v : Nat) : Option Nat:=if v < 10 ^ 60 then some v else none
theorem a9 (v : Nat) : gR v = toR (cap v):=by
 unfold gR cap
 by_cases h : v < 10 ^ 60
 ·rw [decide_eq_true h,if_pos h]; rfl
 ·rw [decide_eq_false h,if_neg h]; rfl
theorem Ss {v x : Nat} (h : cap v = some x) : x = v ∧ v < 10 ^ 60:=by
 unfold cap at h
 split at h
 ·cases h; exact ⟨rfl,by assumption⟩
 ·cases h
theorem Nf {m n : Nat} (hm : m < 10 ^ 60) (hn : n < 10 ^ 60) : We (CV m) (CV n) = toR (cap (m * n)):=by
 unfold We
 rw [Mo hm,Mo hn,KE,KE,a9]; rfl
def pwA (n : Nat) : Nat -> Nat -> Option Nat
 | acc,0 => some acc
 | acc,k + 1 => match cap (acc * n) with
  | some x => pwA n x k
  | none => none
theorem Yi {n : Nat} : ∀ (k acc x : Nat),acc < 10 ^ 60 -> pwA n acc k = some x -> x < 10 ^ 60
 | 0,acc,x,h,e => by rw [pwA] at e; cases e; exact h
 | k + 1,acc,x,h,e => by
  rw [pwA] at e
  cases hc : cap (acc * n) with
  | none => rw [hc] at e; cases e
  | some y => rw [hc] at e; obtain ⟨rfl,hy⟩:=Ss hc; exact Yi k _ x hy e
def toS : Option Nat -> Sum (List Int) (List Int × Bool)
 | some v => .inl (CV v)
 | none => .inr ([],false)
abbrev PwB:=(List Int × Int -> Option (Sum (List Int) (List Int × Bool))) -> List Int × Int -> Option (Sum (List Int) (List Int × Bool))
theorem P3 {B : PwB} {n : Nat} {e : Nat} (hn : n < 10 ^ 60) (h1 : ∀ rec acc k,acc < 10 ^ 60 -> k < e -> B rec (CV acc,(k : Int)) = cond (!(We (CV acc) (CV n)).2) (some (.inr ([],false))) (rec ((We (CV acc) (CV n)).1,((k + 1 : Nat) : Int)))) (h2 : ∀ rec y,B rec (y,(e : Int)) = some (.inl y)) :
  ∀ (j k acc f : Nat),k + j = e -> acc < 10 ^ 60 -> j < f -> Ah B f (CV acc,(k : Int)) = some (toS (pwA n acc j))
 | 0,k,acc,f,hk,ha,hf => by
  obtain ⟨f,rfl⟩ : ∃ g,f = g + 1:=⟨f - 1,by omega⟩
  obtain rfl : k = e:=by omega
  rw [AD,h2]; rfl
 | j + 1,k,acc,f,hk,ha,hf => by
  obtain ⟨f,rfl⟩ : ∃ g,f = g + 1:=⟨f - 1,by omega⟩
  rw [AD,h1 _ acc k ha (by omega),Nf ha hn,pwA]
  cases hc : cap (acc * n) with
  | none => rfl
  | some x =>
   obtain ⟨rfl,hx⟩:=Ss hc
   exact P3 hn h1 h2 j (k + 1) (acc * n) f (by omega) hx (by omega)
def KV (n k : Int) : Option Nat:=cond (decide (n < 0)) none (cond (btw k 0 100) (pwA n.toNat 1 k.toNat) none)
theorem Jo {n k : Int} {x : Nat} (h : KV n k = some x) : x < 10 ^ 60:=by
 unfold KV at h
 cases h1 : decide (n < 0) with
 | true => rw [h1] at h; cases h
 | false =>
  cases h2 : btw k 0 100 with
  | false => rw [h1,h2] at h; cases h
  | true => rw [h1,h2] at h; exact Yi _ _ _ (by decide) h
theorem If {n : Nat} (h : n < 10 ^ 60) : (CV n).length <= lim:=U5 (I5 h)
theorem Xh {n k : Int} (hn : n <= 9223372036854775807) : D8 n k = some (toR (KV n k)):=by
 unfold D8 KV
 by_cases h0 : n < 0
 ·rw [decide_eq_true h0]; rfl
 ·rw [decide_eq_false h0,cond_false,cond_false,H4,AB]
  cases hk : btw k 0 100 with
  | false => rfl
  | true =>
   rw [IC] at hk
   have hb : n.toNat < 10 ^ 60:=by omega
   rw [Bool.not_true,cond_false,cond_true,VL (by omega),AB]
   have key:=P3 (B:=Eo n k) (n:=n.toNat) (e:=k.toNat) hb (fun rec acc i ha hi => by
    simp only [Eo]
    rw [decide_eq_true (by omega),cond_true,VL hn,AB,VM (If ha) (If hb),AB,wrap_in (by omega)]
    rfl) (fun rec y => by simp only [Eo]; rw [decide_eq_false (by omega),cond_false]) k.toNat 0 1 fz (by omega) (by decide) (by unfold fz; omega)
   have key' : Ah (Eo n k) fz (CV (Int.toNat 1),0) = some (toS (pwA n.toNat 1 k.toNat)):=key
   rw [key',AB]
   cases pwA n.toNat 1 k.toNat <;> rfl
theorem Y6 {n k : Int} (hn : n <= 9223372036854775807) : E5 n k = some (toR (KV n k)):=by
 unfold E5 KV
 by_cases h0 : n < 0
 ·rw [decide_eq_true h0]; rfl
 ·rw [decide_eq_false h0,cond_false,cond_false,Fb,AB]
  cases hk : btw k 0 100 with
  | false => rfl
  | true =>
   rw [IC] at hk
   have hb : n.toNat < 10 ^ 60:=by omega
   rw [Bool.not_true,cond_false,cond_true,UM (by omega),AB]
   have key:=P3 (B:=Ef n k) (n:=n.toNat) (e:=k.toNat) hb (fun rec acc i ha hi => by
    simp only [Ef]
    rw [decide_eq_true (by omega),cond_true,UM hn,AB,UQ (If ha) (If hb),AB,wrap_in (by omega)]
    rfl) (fun rec y => by simp only [Ef]; rw [decide_eq_false (by omega),cond_false]) k.toNat 0 1 fz (by omega) (by decide) (by unfold fz; omega)
   have key' : Ah (Ef n k) fz (CV (Int.toNat 1),0) = some (toS (pwA n.toNat 1 k.toNat)):=key
   rw [key',AB]
   cases pwA n.toNat 1 k.toNat <;> rfl
def prO : Nat -> List (Int × Int) -> Option Nat
 | v,[] => some v
 | v,p :: l => match KV p.1 p.2 with
  | none => none
  | some x => match cap (v * x) with
   | some y => prO y l
   | none => none
theorem Yh : ∀ (l : List (Int × Int)) (v x : Nat),v < 10 ^ 60 -> prO v l = some x -> x < 10 ^ 60
 | [],v,x,h,e => by rw [prO] at e; cases e; exact h
 | p :: l,v,x,h,e => by
  rw [prO] at e
  cases hp : KV p.1 p.2 with
  | none => rw [hp] at e; cases e
  | some y =>
   rw [hp] at e
   simp only at e
   cases hc : cap (v * y) with
   | none => rw [hc] at e; cases e
   | some z => rw [hc] at e; obtain ⟨rfl,hz⟩:=Ss hc; exact Yh l _ x hz e
theorem Pm {o : Option Nat} (h : ∀ x,o = some x -> x < 10 ^ 60) : ∃ m,m < 10 ^ 60 ∧ (toR o).1 = CV m:=by
 cases o with
 | none => exact ⟨0,by decide,by rw [Hz]; rfl⟩
 | some x => exact ⟨x,h x rfl,rfl⟩
theorem Oa {B : PwB} {l : List (Int × Int)} (h1 : ∀ rec v k (hk : k < l.length),v < 10 ^ 60 -> B rec (CV v,(k : Int)) = cond (!(toR (KV l[k].1 l[k].2)).2) (some (.inr ([],false))) (cond (!(We (CV v) (toR (KV l[k].1 l[k].2)).1).2) (some (.inr ([],false))) (rec ((We (CV v) (toR (KV l[k].1 l[k].2)).1).1,((k + 1 : Nat) : Int))))) (h2 : ∀ rec y,B rec (y,(l.length : Int)) = some (.inl y)) :
  ∀ (j k v f : Nat),k + j = l.length -> v < 10 ^ 60 -> j < f -> Ah B f (CV v,(k : Int)) = some (toS (prO v (l.drop k)))
 | 0,k,v,f,hk,hv,hf => by
  obtain ⟨f,rfl⟩ : ∃ g,f = g + 1:=⟨f - 1,by omega⟩
  obtain rfl : k = l.length:=by omega
  rw [AD,h2,List.drop_length]; rfl
 | j + 1,k,v,f,hk,hv,hf => by
  obtain ⟨f,rfl⟩ : ∃ g,f = g + 1:=⟨f - 1,by omega⟩
  have hlt : k < l.length:=by omega
  rw [AD,h1 _ v k hlt hv,List.drop_eq_getElem_cons hlt,prO]
  cases hp : KV l[k].1 l[k].2 with
  | none => rfl
  | some x =>
   have e : (toR (some x)).1 = CV x:=rfl
   rw [e,Nf hv (Jo hp)]
   simp only
   cases hc : cap (v * x) with
   | none => rfl
   | some y =>
    obtain ⟨rfl,hy⟩:=Ss hc
    exact Oa h1 h2 j (k + 1) (v * x) f (by omega) hy (by omega)
def Rm (a b : List Int) : Option Nat:=cond ((a.length : Int) != (b.length : Int)) none (prO 1 (a.zip b))
theorem N9 {a b : List Int} {x : Nat} (h : Rm a b = some x) : x < 10 ^ 60:=by
 unfold Rm at h
 cases hl : ((a.length : Int) != (b.length : Int)) with
 | true => rw [hl] at h; cases h
 | false => rw [hl] at h; exact Yh _ _ _ (by decide) h
theorem dI {a b : List Int} (h : a.length <= lim) (hI : ∀ e ∈ a,e <= 9223372036854775807) : CQ a b = some (toR (Rm a b)):=by
 unfold CQ Rm
 cases hl : ((a.length : Int) != (b.length : Int)) with
 | true => rfl
 | false =>
  rw [bne_eq_false_iff_eq] at hl
  have hz : (a.zip b).length = a.length:=by rw [List.length_zip]; omega
  rw [cond_false,cond_false,VL (by omega),AB]
  have key:=Oa (B:=BK a b) (l:=a.zip b) (fun rec v k hk hv => by
   have hk1 : k < a.length:=by omega
   have hk2 : k < b.length:=by omega
   obtain ⟨m,hm,em⟩:=Pm (o:=KV a[k] b[k]) fun x hx => Jo hx
   simp only [BK,List.getElem_zip]
   rw [Az hk1,cond_true,Ai hk1,AB,Ai hk2,AB,Xh (hI _ (List.getElem_mem hk1)),AB,VM (If hv) (by rw [em]; exact If hm),AB,AF hk1 (Au h)]) (fun rec y => by
   simp only [BK]
   rw [hz,Ax,cond_false]) (a.zip b).length 0 1 fz (by omega) (by decide) (by rw [hz]; exact FZ h)
  have key' : Ah (BK a b) fz (CV (Int.toNat 1),0) = some (toS (prO 1 (a.zip b))):=key
  rw [key',AB]
  cases prO 1 (a.zip b) <;> rfl
theorem gn {a b : List Int} (h : a.length <= lim) (hI : ∀ e ∈ a,e <= 9223372036854775807) : DT a b = some (toR (Rm a b)):=by
 unfold DT Rm
 cases hl : ((a.length : Int) != (b.length : Int)) with
 | true => rfl
 | false =>
  rw [bne_eq_false_iff_eq] at hl
  have hz : (a.zip b).length = a.length:=by rw [List.length_zip]; omega
  rw [cond_false,cond_false,UM (by omega),AB]
  have key:=Oa (B:=BG a b) (l:=a.zip b) (fun rec v k hk hv => by
   have hk1 : k < a.length:=by omega
   have hk2 : k < b.length:=by omega
   obtain ⟨m,hm,em⟩:=Pm (o:=KV a[k] b[k]) fun x hx => Jo hx
   simp only [BG,List.getElem_zip]
   rw [Az hk1,cond_true,Ai hk1,AB,Ai hk2,AB,Y6 (hI _ (List.getElem_mem hk1)),AB,UQ (If hv) (by rw [em]; exact If hm),AB,AF hk1 (Au h)]) (fun rec y => by
   simp only [BG]
   rw [hz,Ax,cond_false]) (a.zip b).length 0 1 fz (by omega) (by decide) (by rw [hz]; exact FZ h)
  have key' : Ah (BG a b) fz (CV (Int.toNat 1),0) = some (toS (prO 1 (a.zip b))):=key
  rw [key',AB]
  cases prO 1 (a.zip b) <;> rfl
theorem VC : ∀ (l : List (Int × Int)) (v : Nat),(∃ p ∈ l,p.1 < 0) -> prO v l = none
 | [],_,⟨p,hp,_⟩ => by cases hp
 | q :: l,v,⟨p,hp,hn⟩ => by
  rw [prO]
  rcases List.mem_cons.1 hp with rfl | hp
  ·have : KV p.1 p.2 = none:=by unfold KV; rw [decide_eq_true hn]; rfl
   rw [this]
  ·cases KV q.1 q.2 with
   | none => rfl
   | some x =>
    simp only
    cases cap (v * x) with
    | none => rfl
    | some y => exact VC l y ⟨p,hp,hn⟩
def wpB (a : List Int) (w : List Rt) (n fac : Int) : Bool:=decide (0 < (scR w).2) && (match Rm a (scR w).1,KV n (scR w).2,KV fac (scR w).2 with
 | some x,some y,some z => decide (x * z < 10 ^ 60) && decide (y <= x * z)
 | _,_,_ => false)
theorem RP (m n : Nat) : decide (aj m n <= 0) = decide (m <= n):=by
 unfold aj
 rcases Nat.lt_trichotomy m n with h | h | h
 ·rw [decide_eq_true h,decide_eq_true (by omega : m <= n)]; rfl
 ·subst h; rw [decide_eq_false (by omega : ¬ m < m),decide_eq_true (by omega : m <= m)]; rfl
 ·rw [decide_eq_false (by omega : ¬ m < n),decide_eq_true h,decide_eq_false (by omega : ¬ m <= n)]; rfl
theorem VF : ∀ k,pwA 1 1 k = some 1
 | 0 => rfl
 | k + 1 => by
  rw [pwA]
  have : cap (1 * 1) = some 1:=by unfold cap; rw [if_pos (by decide)]
  rw [this]; exact VF k
theorem pow_one {k : Int} (h : 0 <= k ∧ k <= 100) : KV 1 k = some 1:=by
 unfold KV
 rw [(IC (x:=k) (lo:=0) (hi:=100)).2 h]
 exact VF _
theorem VB {n k : Int} (h : ¬ (0 <= k ∧ k <= 100)) : KV n k = none:=by
 unfold KV
 rw [show btw k 0 100 = false by rw [Bool.eq_false_iff]; intro hh; exact h (IC.1 hh)]
 cases decide (n < 0) <;> rfl
theorem jB {a : List Int} {w : List Rt} {n : Int} (ha : a.length <= lim) (hI : ∀ e ∈ a,e <= 9223372036854775807) (hw : w.length <= lim) (hn : n <= 9223372036854775807) : DJ a w n = some (wpB a w n 1):=by
 unfold DJ wpB
 rw [VO hw,AB,dI ha hI,AB,Xh hn,AB]
 by_cases hd : 0 < (scR w).2
 ·rw [decide_eq_true hd,cond_true,Bool.true_and]
  cases hx : Rm a (scR w).1 with
  | none => rfl
  | some x =>
   cases hy : KV n (scR w).2 with
   | none => rfl
   | some y =>
    have hk : 0 <= (scR w).2 ∧ (scR w).2 <= 100:=Classical.byContradiction fun hh => by rw [VB hh] at hy; cases hy
    have lx:=N9 hx
    rw [pow_one hk]
    simp only [toR,cond_true]
    rw [Yn (Jo hy) lx,AB,RP,Nat.mul_one,decide_eq_true lx]; rfl
 ·rw [decide_eq_false hd]; rfl
theorem jZ {a : List Int} {w : List Rt} {n fac : Int} (ha : a.length <= lim) (hI : ∀ e ∈ a,e <= 9223372036854775807) (hw : w.length <= lim) (hn : n <= 9223372036854775807) (hf : fac <= 9223372036854775807) : Ej a w n fac = some (wpB a w n fac):=by
 unfold Ej wpB
 rw [Y8 hw,AB]
 by_cases h0 : n < 0
 ·have : KV n (scR w).2 = none:=by unfold KV; rw [decide_eq_true h0]; rfl
  rw [decide_eq_true h0,cond_true,this]
  cases Rm a (scR w).1 <;> simp
 ·rw [decide_eq_false h0,cond_false]
  by_cases hd : 0 < (scR w).2
  ·rw [decide_eq_false (by omega : ¬ (scR w).2 < 1),cond_false,decide_eq_true hd,Bool.true_and]
   by_cases hk : 100 < (scR w).2
   ·rw [decide_eq_true hk,cond_true,VB (by omega)]
    cases Rm a (scR w).1 <;> rfl
   ·rw [decide_eq_false hk,cond_false,Bh (n:=a.length) (fun k => atB a k fun e => decide (e < 0)) ha (fun k hk rec => by
     unfold Fe
     rw [Az hk,cond_true,Ai hk,AB,AF hk (Au ha),AN hk]) (fun rec => by unfold Fe; rw [Ax,cond_false]),AB]
    have e : ((List.range a.length).any fun k => atB a k fun e => decide (e < 0)) = Ay a fun _ e => decide (e < 0):=rfl
    rw [e]
    cases hb : Ay a fun _ e => decide (e < 0) with
    | true =>
     have : Rm a (scR w).1 = none:=by
      unfold Rm
      cases hl : ((a.length : Int) != ((scR w).1.length : Int)) with
      | true => rfl
      | false =>
       rw [bne_eq_false_iff_eq] at hl
       rw [cond_false]
       unfold Ay at hb
       obtain ⟨k,hk1,hk2⟩:=List.any_eq_true.1 hb
       have hk3 : k < a.length:=List.mem_range.1 hk1
       rw [AN hk3,decide_eq_true_eq] at hk2
       exact VC _ _ ⟨(a[k],(scR w).1[k]'(by omega)),by
        have : (a.zip (scR w).1)[k]'(by rw [List.length_zip]; omega) = (a[k],(scR w).1[k]'(by omega)):=List.getElem_zip
        rw [<- this]; exact List.getElem_mem _,hk2⟩
     rw [this]; rfl
    | false =>
     simp only [cond_false]
     rw [Y6 hn,AB,gn ha hI,AB,Y6 hf,AB]
     obtain ⟨m1,l1,e1⟩:=Pm (o:=Rm a (scR w).1) fun x hx => N9 hx
     obtain ⟨m2,l2,e2⟩:=Pm (o:=KV fac (scR w).2) fun x hx => Jo hx
     rw [UQ (by rw [e1]; exact If l1) (by rw [e2]; exact If l2),AB]
     cases hx : Rm a (scR w).1 with
     | none => cases KV n (scR w).2 <;> rfl
     | some x =>
      cases hy : KV n (scR w).2 with
      | none => rfl
      | some y =>
       cases hz : KV fac (scR w).2 with
       | none => rfl
       | some z =>
        simp only [toR,cond_true]
        rw [Nf (N9 hx) (Jo hz)]
        unfold cap
        by_cases hc : x * z < 10 ^ 60
        ·rw [if_pos hc]
         simp only [toR,cond_true]
         rw [bf (Jo hy) hc,AB,RP,decide_eq_true hc]; rfl
        ·rw [if_neg hc,decide_eq_false hc]; rfl
  ·rw [decide_eq_true (by omega : (scR w).2 < 1),decide_eq_false hd]; rfl
theorem gj {a : List Int} {w : List Rt} {n : Int} (ha : a.length <= lim) (hI : ∀ e ∈ a,e <= 9223372036854775807) (hw : w.length <= lim) (hn : n <= 9223372036854775807) : DD a w n = some (wpB a w n 1):=by
 unfold DD
 rw [jZ ha hI hw hn (by omega),AB]
def skB (q : Qry) : Int:=cond (Ki q) (2 * q.1 * (q.2.1.length : Int)) 0
theorem VU {q : Qry} (h : Ki q = true) : IntKind.i64.wrap (IntKind.i64.wrap (IntKind.i64.wrap (2 * q.1) * (q.2.1.length : Int)) * 1) = skB q ∧ skB q <= 1000 ∧ 0 <= skB q:=by
 obtain ⟨h1,h2,h3,-⟩:=Q1 h
 unfold skB
 rw [h,cond_true]
 have hq : q.1 = 1 ∨ q.1 = 2 ∨ q.1 = 3 ∨ q.1 = 4 ∨ q.1 = 5:=by omega
 have hp : 0 <= 2 * q.1 * (q.2.1.length : Int) ∧ 2 * q.1 * (q.2.1.length : Int) <= 40:=by
  rcases hq with e | e | e | e | e <;> rw [e] <;> omega
 rw [wrap_in (n:=2 * q.1) (by omega),wrap_in (n:=2 * q.1 * (q.2.1.length : Int)) (by omega),Int.mul_one,wrap_in (by omega)]
 exact ⟨rfl,by omega,hp.1⟩
theorem lj {q : Qry} (hq : smQ q) : GY q 1 = some (skB q):=by
 unfold GY
 rw [MI hq,AB]
 cases h : Ki q with
 | false => unfold skB; rw [h]; rfl
 | true =>
  rw [Bool.not_true,cond_false,H4,AB,show btw 1 0 1000000 = true from rfl,Bool.not_true,cond_false,(VU h).1]
theorem kF {q : Qry} (hq : smQ q) : GO q 1 = some (skB q):=by
 unfold GO
 rw [NU hq,AB]
 cases h : Ki q with
 | false => unfold skB; rw [h]; rfl
 | true =>
  rw [Bool.not_true,cond_false,Fb,AB,show btw 1 0 1000000 = true from rfl,Bool.not_true,cond_false,(VU h).1]
theorem Yu {q : Qry} : skB q <= 9223372036854775807:=by
 cases h : Ki q with
 | true => have:=VU h; omega
 | false => unfold skB; rw [h]; show (0 : Int) <= 9223372036854775807; decide
theorem jJ {q : Qry} {a : List Int} {w : List Rt} {n : Int} (hq : smQ q) (ha : a.length <= lim) (hI : ∀ e ∈ a,e <= 9223372036854775807) (hw : w.length <= lim) (hn : n <= 9223372036854775807) : De q a w n = some (Ki q && wpB a w n (skB q)):=by
 unfold De wpB
 rw [VO hw,AB,dI ha hI,AB,Xh hn,AB,lj hq,AB,Xh Yu,AB]
 obtain ⟨m1,l1,e1⟩:=Pm (o:=Rm a (scR w).1) fun x hx => N9 hx
 obtain ⟨m2,l2,e2⟩:=Pm (o:=KV (skB q) (scR w).2) fun x hx => Jo hx
 rw [VM (by rw [e1]; exact If l1) (by rw [e2]; exact If l2),AB]
 by_cases hd : 0 < (scR w).2
 ·rw [decide_eq_true hd,cond_true,Bool.true_and]
  cases hx : Rm a (scR w).1 with
  | none => rw [Bool.and_false]; rfl
  | some x =>
   cases hy : KV n (scR w).2 with
   | none => rw [Bool.and_false]; rfl
   | some y =>
    cases hz : KV (skB q) (scR w).2 with
    | none => rw [Bool.and_false]; rfl
    | some z =>
     simp only [toR,cond_true]
     rw [Nf (N9 hx) (Jo hz)]
     unfold cap
     by_cases hc : x * z < 10 ^ 60
     ·rw [if_pos hc]
      simp only [toR,cond_true]
      rw [MI hq,AB]
      cases Ki q with
      | false => rfl
      | true => rw [cond_true,Yn (Jo hy) hc,AB,RP,decide_eq_true hc]; rfl
     ·rw [if_neg hc,decide_eq_false hc,Bool.false_and,Bool.and_false]; rfl
 ·rw [decide_eq_false hd,Bool.false_and,Bool.and_false]; rfl
theorem go {q : Qry} {a : List Int} {w : List Rt} {n : Int} (hq : smQ q) (ha : a.length <= lim) (hI : ∀ e ∈ a,e <= 9223372036854775807) (hw : w.length <= lim) (hn : n <= 9223372036854775807) : C6 q a w n = some (Ki q && wpB a w n (skB q)):=by
 unfold C6
 rw [NU hq,AB]
 cases Ki q with
 | false => rfl
 | true => rw [cond_true,kF hq,AB,jZ ha hI hw hn Yu,AB]; rfl
end Go.Proofs.YtkclaipnejgloaaGreatDoor
