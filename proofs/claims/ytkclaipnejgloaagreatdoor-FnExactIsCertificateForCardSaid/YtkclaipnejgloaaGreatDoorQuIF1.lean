/-
 When a query is valid: the reference and the program agree. On the printed functions; conditions: lengths.
-/
import Derived.Test.YtkclaipnejgloaaGreatDoorFhIF1
namespace Go.Proofs.YtkclaipnejgloaaGreatDoor
open Go.RowKit
set_option linter.unusedSimpArgs false
theorem XD {S : Type} {B : (S × Int -> Option (Sum S Bool)) -> S × Int -> Option (Sum S Bool)} {n : Nat} (s : Nat -> S) (bad : Nat -> Bool) (hn : n <= lim) (h1 : ∀ k,k < n -> ∀ rec,B rec (s k,(k : Int)) = cond (bad k) (some (.inr false)) (rec (s (k + 1),((k + 1 : Nat) : Int)))) (h2 : ∀ rec,B rec (s n,(n : Int)) = some (.inl (s n))) :
  Ah B fz (s 0,0) = some (cond ((List.range n).any bad) (.inr false) (.inl (s n))):=by
 have key : ∀ d k,k + d = n -> (∀ j,j < k -> bad j = false) -> ∀ m,d < m -> Ah B m (s k,(k : Int)) = some (cond ((List.range n).any bad) (.inr false) (.inl (s n))):=by
  intro d
  induction d with
  | zero =>
   intro k hk hb m hm
   cases m with
   | zero => omega
   | succ m =>
    have hkn : k = n:=by omega
    have : (List.range n).any bad = false:=by
     rw [List.any_eq_false]
     intro x hx
     rw [hb x (by have:=List.mem_range.1 hx; omega)]; simp
    show B (Ah B m) (s k,(k : Int)) = _
    rw [hkn,h2,this]; rfl
  | succ d ih =>
   intro k hk hb m hm
   cases m with
   | zero => omega
   | succ m =>
    show B (Ah B m) (s k,(k : Int)) = _
    rw [h1 k (by omega)]
    cases hbk : bad k with
    | true =>
     have : (List.range n).any bad = true:=by rw [List.any_eq_true]; exact ⟨k,List.mem_range.2 (by omega),hbk⟩
     rw [this]; rfl
    | false =>
     exact ih (k + 1) (by omega) (fun j hj => by
      rcases Nat.lt_or_ge j k with h | h
      ·exact hb j h
      ·rw [show j = k by omega]; exact hbk) m (by omega)
 have:=key n 0 (by omega) (fun j hj => absurd hj (by omega)) fz (FZ hn)
 simpa using this
def NN (l : List Int) (v : Int) : Option Nat:=(List.range l.length).findSome? fun k => if (atB l k fun e => e == v) = true then some k else none
theorem Mm (l : List Int) (v : Int) : (NN l v).isSome = l.contains v:=by
 unfold NN
 rw [Bool.eq_iff_iff,List.findSome?_isSome_iff,List.contains_iff_mem]
 constructor
 ·rintro ⟨k,hk,h⟩
  have hk:=List.mem_range.1 hk
  split at h
  ·rename_i he; rw [AN hk] at he; have : l[k] = v:=by simpa using he
   rw [<- this]; exact List.getElem_mem hk
  ·cases h
 ·intro h
  obtain ⟨k,hk,rfl⟩:=List.mem_iff_getElem.1 h
  exact ⟨k,List.mem_range.2 hk,by rw [AN hk]; simp⟩
def EL (l : List Int) (v : Int) : Int:=match NN l v with
 | some k => (k : Int)
 | none => -1
theorem Kv (l : List Int) (v : Int) : decide (0 <= EL l v) = l.contains v:=by
 rw [<- Mm]
 unfold EL
 cases NN l v with
 | some k => simp
 | none => rfl
theorem Pj {l : List Int} (h : l.length <= lim) (v : Int) : Fa l v = some (EL l v):=by
 unfold Fa EL NN
 rw [Og (O:=Int) (fun k => if (atB l k fun e => e == v) = true then some (k : Int) else none) h (fun k hk rec => by
  unfold HP
  rw [Az hk,Ai hk,AF hk (Au h),AN hk]
  simp only [cond_true,Ad]
  cases (l[k] == v) <;> rfl) (fun rec => by unfold HP; rw [Ax]; rfl)]
 have e : ((List.range l.length).findSome? fun k => if (atB l k fun e => e == v) = true then some (k : Int) else none) = ((List.range l.length).findSome? fun k => if (atB l k fun e => e == v) = true then some k else none).map (fun k : Nat => (k : Int)):=by
  rw [List.map_findSome?]
  congr 1
  funext k
  simp only [Function.comp]
  split <;> rfl
 rw [e]
 cases (List.range l.length).findSome? fun k => if (atB l k fun e => e == v) = true then some k else none <;> rfl
theorem UP {l : List Int} (h : l.length <= lim) (v : Int) : Gf l v = some (EL l v):=by
 unfold Gf EL NN
 rw [Og (O:=Int) (fun k => if (atB l k fun e => e == v) = true then some (k : Int) else none) h (fun k hk rec => by
  unfold Hk
  rw [Az hk,Ai hk,AF hk (Au h),AN hk]
  simp only [cond_true,Ad]
  cases (l[k] == v) <;> rfl) (fun rec => by unfold Hk; rw [Ax]; rfl)]
 have e : ((List.range l.length).findSome? fun k => if (atB l k fun e => e == v) = true then some (k : Int) else none) = ((List.range l.length).findSome? fun k => if (atB l k fun e => e == v) = true then some k else none).map (fun k : Nat => (k : Int)):=by
  rw [List.map_findSome?]
  congr 1
  funext k
  simp only [Function.comp]
  split <;> rfl
 rw [e]
 cases (List.range l.length).findSome? fun k => if (atB l k fun e => e == v) = true then some k else none <;> rfl
theorem Y4 {l : List Int} (h : l.length <= lim) (v : Int) : Hd l v = some (l.contains v):=by
 unfold Hd
 simp only [UP h,Ad,Kv]
abbrev Atm:=List UInt8 × List Int
abbrev Qry:=Int × List Atm × List Int
theorem dG {a : Atm} (h : a.2.length <= lim) (v : Int) : AQ a v = some (a.2.contains v):=by
 unfold AQ
 rw [Og (O:=Bool) (fun k => if (atB a.2 k fun e => e == v) = true then some true else none) h (fun k hk rec => by
  unfold DN
  rw [Az hk,Ai hk,AF hk (Au h),AN hk]
  simp only [cond_true,Ad]
  cases (a.2[k] == v) <;> rfl) (fun rec => by unfold DN; rw [Ax]; rfl)]
 rw [<- Mm]
 have e : ((List.range a.2.length).findSome? fun k => if (atB a.2 k fun e => e == v) = true then some true else none) = (NN a.2 v).map (fun _ => true):=by
  unfold NN
  rw [List.map_findSome?]
  congr 1
  funext k
  simp only [Function.comp]
  split <;> rfl
 rw [e]
 cases NN a.2 v <;> rfl
def FR (n : Int) (l : List Int) (k : Nat) (e : Int) : Bool := !btw e 0 (IntKind.i64.wrap (n - 1)) || (l.take k).contains e
theorem Nn {α : Type} (l : List α) (k : Nat) : Cq l 0 (k : Int) = l.take k:=by simp [Cq]
theorem Y9 {l : List Int} (h : l.length <= lim) (n : Int) : Gg l n = some (!Ay l (FR n l)):=by
 unfold Gg Ay
 rw [Bh (fun k => atB l k (FR n l k)) h (fun k hk rec => by
  unfold Hl
  rw [Az hk,Ai hk,AF hk (Au h),AN hk]
  simp only [cond_true,Ad,Fb]
  rw [Ar (by omega),Nn]
  simp only [Y4 (l:=l.take k) (by rw [List.length_take]; omega),FR]
  cases btw l[k] 0 (IntKind.i64.wrap (n - 1)) <;> rfl) (fun rec => by unfold Hl; rw [Ax]; rfl)]
 cases (List.range l.length).any fun k => atB l k (FR n l k) <;> rfl
def IB (n : Int) (a : Atm) : Bool := !nmB a.1 || (!btw (a.2.length : Int) 1 5 || Ay a.2 fun _ v => !btw v 0 (IntKind.i64.wrap (n - 1)))
def smQ (q : Qry) : Prop:=q.2.1.length <= lim ∧ (∀ a ∈ q.2.1,a.1.length <= lim ∧ a.2.length <= lim) ∧ q.2.2.length <= lim
def Ic (l : List Atm) (v : Int) : Bool:=l.any fun a => a.2.contains v
theorem ZT {q : Qry} (h : smQ q) : Ah (DX q) fz 0 = some (cond (Ay q.2.1 fun _ a => IB q.1 a) (.inr false) (.inl ())):=by
 unfold Ay
 refine Bh (fun k => atB q.2.1 k fun a => IB q.1 a) h.1 (fun k hk rec => ?_) (fun rec => by unfold DX; rw [Ax]; rfl)
 have ha:=h.2.1 _ (List.getElem_mem hk)
 unfold DX
 rw [Az hk,Ai hk,AF hk (Au h.1),AN hk]
 simp only [cond_true,Ad,Yp ha.1,H4,IB]
 cases nmB q.2.1[k].1 with
 | false => rfl
 | true =>
  cases btw (q.2.1[k].2.length : Int) 1 5 with
  | false => rfl
  | true =>
   simp only [Bool.not_true,cond_false,Bool.false_or]
   rw [Bh (fun j => atB q.2.1[k].2 j fun v => !btw v 0 (IntKind.i64.wrap (q.1 - 1))) ha.2 (fun j hj rec => by
    unfold Fh
    rw [Ai hk]
    simp only [Ad]
    rw [Az hj,Ai hj,AF hj (Au ha.2),AN hj]
    simp only [cond_true,H4]) (fun rec => by unfold Fh; rw [Ai hk]; simp only [Ad]; rw [Ax]; rfl)]
   unfold Ay
   cases (List.range q.2.1[k].2.length).any fun j => atB q.2.1[k].2 j fun v => !btw v 0 (IntKind.i64.wrap (q.1 - 1)) <;> rfl
theorem dT {q : Qry} (h : smQ q) (v : Int) : Ah (BW q v) fz (false,0) = some (Ic q.2.1 v):=by
 have:=B8 (body:=BW q v) (out:=Ic q.2.1 v) (fun k => (Ic (q.2.1.take k) v,(k : Int))) q.2.1.length (fun k hk rec => by
  have ha:=h.2.1 _ (List.getElem_mem hk)
  unfold BW D0
  simp only
  rw [Az hk,Ai hk,AF hk (Au h.1)]
  simp only [cond_true,Ad,dG ha.2]
  have e : Ic (q.2.1.take (k + 1)) v = (Ic (q.2.1.take k) v || q.2.1[k].2.contains v):=by
   unfold Ic
   rw [List.take_succ_eq_append_getElem hk,List.any_append]; simp
  rw [e]
  cases Ic (q.2.1.take k) v <;> rfl) (fun rec => by unfold BW; simp only; rw [Ax,List.take_length]; rfl) fz (FZ h.1)
 simpa [Ic] using this
theorem ZW {q : Qry} (h : smQ q) (hn : 1 <= q.1 ∧ q.1 <= 5) : Ah (DY q) fz 0 = some (cond ((List.range q.1.toNat).any fun v => !Ic q.2.1 (v : Int)) (.inr false) (.inl ())):=by
 have e : q.1 = (q.1.toNat : Int):=by omega
 refine Bh (fun v => !Ic q.2.1 (v : Int)) (by unfold lim; omega) (fun k hk rec => ?_) (fun rec => by
  unfold DY
  rw [decide_eq_false (by omega : ¬ ((q.1.toNat : Nat) : Int) < q.1)]; rfl)
 unfold DY
 rw [decide_eq_true (by omega : (k : Int) < q.1),dT h,wrap_in (by omega)]
 simp only [cond_true,Ad]
 rfl
theorem jI {q : Qry} (h : smQ q) : Ah (DZ q) fz 0 = some (cond (Ay q.2.2 (FR q.1 q.2.2)) (.inr false) (.inl ())):=by
 unfold Ay
 refine Bh (fun k => atB q.2.2 k (FR q.1 q.2.2 k)) h.2.2 (fun k hk rec => ?_) (fun rec => by unfold DZ; rw [Ax]; rfl)
 unfold DZ
 rw [Az hk,Ai hk,AF hk (Au h.2.2),AN hk]
 simp only [cond_true,Ad,H4]
 rw [Ar (by omega),Nn]
 simp only [Pj (l:=q.2.2.take k) (by rw [List.length_take]; have:=h.2.2; omega),Kv,FR]
 cases btw q.2.2[k] 0 (IntKind.i64.wrap (q.1 - 1)) <;> rfl
def Ki (q : Qry) : Bool:=btw q.1 1 5 && (btw (q.2.1.length : Int) 1 4 && (!Ay q.2.2 (FR q.1 q.2.2) && (!(Ay q.2.1 fun _ a => IB q.1 a) && !((List.range q.1.toNat).any fun v => !Ic q.2.1 (v : Int)))))
theorem few : ∀ (n : Nat) (l : List Int),l.Nodup -> (∀ e ∈ l,0 <= e ∧ e < (n : Int)) -> l.length <= n
 | 0,l,_,h => by
  cases l with
  | nil => simp
  | cons e l => have:=h e (by simp); omega
 | n + 1,l,hd,h => by
  have h1:=few n (l.erase (n : Int)) (hd.erase _) (fun e he => by
   have h2:=h e (List.mem_of_mem_erase he)
   have h3 : e ≠ (n : Int):=fun q => by subst q; exact (List.Nodup.not_mem_erase hd) he
   omega)
  have h2:=List.length_erase (a:=(n : Int)) (l:=l)
  split at h2 <;> omega
theorem Z4 {n : Int} (hn : 1 <= n ∧ n <= 5) {l : List Int} (h : Ay l (FR n l) = false) : (l.length : Int) <= n:=by
 have hw : IntKind.i64.wrap (n - 1) = n - 1:=wrap_in (by omega)
 have hin : ∀ e ∈ l,0 <= e ∧ e < (n.toNat : Int):=by
  intro e he
  obtain ⟨k,hk,rfl⟩:=List.mem_iff_getElem.1 he
  have:=FE h hk
  unfold FR btw at this
  simp only [Bool.or_eq_false_iff,Bool.not_eq_false',Bool.and_eq_true,decide_eq_true_eq,hw] at this
  omega
 have hd : l.Nodup:=by
  rw [List.nodup_iff_pairwise_ne,List.pairwise_iff_getElem]
  intro i j hi hj hij he
  have:=FE h hj
  unfold FR at this
  simp only [Bool.or_eq_false_iff] at this
  have h2:=this.2
  have : (l.take j).contains l[j] = true:=by
   rw [List.contains_iff_mem,List.mem_iff_getElem]
   exact ⟨i,by rw [List.length_take]; omega,by rw [List.getElem_take]; exact he⟩
  rw [this] at h2; cases h2
 have:=few n.toNat l hd hin
 omega
theorem MI {q : Qry} (h : smQ q) : Bo q = some (Ki q):=by
 unfold Bo Ki
 simp only [H4,Ad,ZT h,jI h]
 cases hb : btw q.1 1 5 with
 | false => rfl
 | true =>
  have hn : 1 <= q.1 ∧ q.1 <= 5:=by unfold btw at hb; simpa using hb
  rw [ZW h hn]
  cases btw (q.2.1.length : Int) 1 4 with
  | false => rfl
  | true =>
   by_cases hl : q.1 < (q.2.2.length : Int)
   ·rw [decide_eq_true hl]
    have : Ay q.2.2 (FR q.1 q.2.2) = true:=by
     cases hs : Ay q.2.2 (FR q.1 q.2.2) with
     | true => rfl
     | false => have:=Z4 hn hs; omega
    rw [this]; rfl
   ·rw [decide_eq_false hl]
    cases Ay q.2.2 (FR q.1 q.2.2) <;> cases (Ay q.2.1 fun _ a => IB q.1 a) <;> cases ((List.range q.1.toNat).any fun v => !Ic q.2.1 (v : Int)) <;> rfl
def uL (m : Nat) (f : Nat -> Bool) : List Bool:=(List.range m).map f
theorem Tv (m : Nat) (f : Nat -> Bool) : (uL m f).length = m:=by simp [uL]
theorem d6 {m v : Nat} (f : Nat -> Bool) : (uL m f).set v true = uL m (fun u => f u || u == v):=by
 apply List.ext_getElem
 ·simp [uL]
 ·intro i h1 h2
  rw [List.getElem_set]
  simp only [uL,List.getElem_map,List.getElem_range]
  split
  ·rename_i e; subst e; simp
  ·rename_i e
   have : (i == v) = false:=by simp; omega
   rw [this]; simp
theorem Y0 {q : Qry} (h : smQ q) (hn : 1 <= q.1 ∧ q.1 <= 5) : Ah (CJ q) fz (List.replicate (Int.toNat q.1) false,0) = some (cond (Ay q.2.1 fun _ a => IB q.1 a) (.inr false) (.inl (uL q.1.toNat fun v => Ic q.2.1 (v : Int)))):=by
 have hw : IntKind.i64.wrap (q.1 - 1) = q.1 - 1:=wrap_in (by omega)
 have h0 : List.replicate (Int.toNat q.1) false = uL q.1.toNat fun v => Ic (q.2.1.take 0) (v : Int):=by
  unfold uL Ic
  simp [List.map_const']
 rw [h0]
 unfold Ay
 have:=XD (B:=CJ q) (n:=q.2.1.length) (fun k => uL q.1.toNat fun v => Ic (q.2.1.take k) (v : Int)) (fun k => atB q.2.1 k fun a => IB q.1 a) h.1 (fun k hk rec => by
  have ha:=h.2.1 _ (List.getElem_mem hk)
  unfold CJ
  simp only
  rw [Az hk,Ai hk,AF hk (Au h.1),AN hk]
  simp only [cond_true,Ad,XW ha.1,Fb,IB]
  cases nmB q.2.1[k].1 with
  | false => rfl
  | true =>
   cases btw (q.2.1[k].2.length : Int) 1 5 with
   | false => rfl
   | true =>
    simp only [Bool.not_true,cond_false,Bool.false_or]
    have hin:=XD (B:=DS q q.2.1[k]) (n:=q.2.1[k].2.length) (fun j => uL q.1.toNat fun v => Ic (q.2.1.take k) (v : Int) || (q.2.1[k].2.take j).contains (v : Int)) (fun j => atB q.2.1[k].2 j fun v => !btw v 0 (IntKind.i64.wrap (q.1 - 1))) ha.2 (fun j hj rec => by
     unfold DS
     simp only
     rw [Az hj,Ai hj,AF hj (Au ha.2),AN hj]
     simp only [cond_true,Ad,Fb]
     cases hb : btw q.2.1[k].2[j] 0 (IntKind.i64.wrap (q.1 - 1)) with
     | false => rfl
     | true =>
      have hv : 0 <= q.2.1[k].2[j] ∧ q.2.1[k].2[j] <= q.1 - 1:=by rw [hw] at hb; unfold btw at hb; simpa using hb
      have hvn : q.2.1[k].2[j] = ((q.2.1[k].2[j].toNat : Nat) : Int):=by omega
      simp only [Bool.not_true,cond_false]
      rw [hvn,Ai (by rw [Tv]; omega)]
      simp only
      congr 2
      unfold Ky
      rw [Int.toNat_natCast,d6 _]
      congr 1
      funext u
      rw [List.take_succ_eq_append_getElem hj,List.contains_append,Bool.or_assoc]
      congr 1
      congr 1
      rw [hvn]
      simp only [List.contains_cons,List.contains_nil,Bool.or_false]
      rw [Bool.eq_iff_iff]
      simp
      omega) (fun rec => by unfold DS; simp only; rw [Ax]; rfl)
    have e0 : (uL q.1.toNat fun v => Ic (q.2.1.take k) (v : Int) || (q.2.1[k].2.take 0).contains (v : Int)) = uL q.1.toNat fun v => Ic (q.2.1.take k) (v : Int):=by
     unfold uL; simp
    have e1 : (uL q.1.toNat fun v => Ic (q.2.1.take k) (v : Int) || (q.2.1[k].2.take q.2.1[k].2.length).contains (v : Int)) = uL q.1.toNat fun v => Ic (q.2.1.take (k + 1)) (v : Int):=by
     congr 1
     funext v
     unfold Ic
     rw [List.take_length,List.take_succ_eq_append_getElem hk,List.any_append]; simp
    simp only [e0,e1] at hin
    rw [hin]
    unfold Ay
    cases (List.range q.2.1[k].2.length).any fun j => atB q.2.1[k].2 j fun v => !btw v 0 (IntKind.i64.wrap (q.1 - 1)) <;> rfl) (fun rec => by unfold CJ; simp only; rw [Ax]; rfl)
 rw [List.take_length] at this
 exact this
theorem NU {q : Qry} (h : smQ q) : BF q = some (Ki q):=by
 unfold BF Ki
 simp only [Fb,Ad,Y9 h.2.2]
 cases hb : btw q.1 1 5 with
 | false => rfl
 | true =>
  have hn : 1 <= q.1 ∧ q.1 <= 5:=by unfold btw at hb; simpa using hb
  cases btw (q.2.1.length : Int) 1 4 with
  | false => rfl
  | true =>
   cases Ay q.2.2 (FR q.1 q.2.2) with
   | true => rfl
   | false =>
    simp only [Bool.not_true,Bool.not_false,cond_false,Bool.true_and]
    rw [Ar (by unfold lim; omega),Y0 h hn]
    cases (Ay q.2.1 fun _ a => IB q.1 a) with
    | true => rfl
    | false =>
     simp only [cond_false,Bool.not_false,Bool.true_and]
     rw [Bh (n:=(uL q.1.toNat fun v => Ic q.2.1 (v : Int)).length) (fun k => !Ic q.2.1 (k : Int)) (by rw [Tv]; unfold lim; omega) (fun k hk rec => by
      unfold Fd
      rw [Az hk,Ai hk,AF hk (by rw [Tv]; unfold maxLen; omega)]
      simp only [cond_true,Ad,uL,List.getElem_map,List.getElem_range]) (fun rec => by unfold Fd; rw [Ax]; rfl),Tv]
     cases (List.range q.1.toNat).any fun v => !Ic q.2.1 (v : Int) <;> rfl
theorem Ix {α : Type} {l : List α} {f : α -> Bool} (h : Ay l (fun _ e => f e) = false) {a : α} (ha : a ∈ l) : f a = false:=by
 obtain ⟨k,hk,rfl⟩:=List.mem_iff_getElem.1 ha
 exact FE h hk
theorem Q1 {q : Qry} (h : Ki q = true) : 1 <= q.1 ∧ q.1 <= 5 ∧ q.2.1.length <= 4 ∧ ∀ a ∈ q.2.1,1 <= a.2.length ∧ a.2.length <= 5 ∧ ∀ v ∈ a.2,0 <= v ∧ v < q.1:=by
 unfold Ki at h
 simp only [Bool.and_eq_true,Bool.not_eq_true'] at h
 obtain ⟨h1,h2,-,h4,-⟩:=h
 have e1 : 1 <= q.1 ∧ q.1 <= 5:=by unfold btw at h1; simpa using h1
 have e2 : 1 <= (q.2.1.length : Int) ∧ (q.2.1.length : Int) <= 4:=by unfold btw at h2; simpa using h2
 refine ⟨e1.1,e1.2,by omega,fun a ha => ?_⟩
 have h5:=Ix h4 ha
 unfold IB at h5
 simp only [Bool.or_eq_false_iff,Bool.not_eq_false'] at h5
 have e3 : 1 <= (a.2.length : Int) ∧ (a.2.length : Int) <= 5:=by have:=h5.2.1; unfold btw at this; simpa using this
 refine ⟨by omega,by omega,fun v hv => ?_⟩
 have h6:=Ix h5.2.2 hv
 simp only [Bool.not_eq_false'] at h6
 rw [wrap_in (by omega)] at h6
 have : 0 <= v ∧ v <= q.1 - 1:=by unfold btw at h6; simpa using h6
 omega
end Go.Proofs.YtkclaipnejgloaaGreatDoor
