/-
 When a query is valid: the reference and the program agree. On the printed functions; conditions: lengths.
-/
import Derived.Test.YtklcofndjkjldaaGreatFhNT1
namespace Go.Proofs.YtklcofndjkjldaaGreat
open Go.RowKit
set_option linter.unusedSimpArgs false
theorem WY {S : Type} {B : (S × Int -> Option (Sum S Bool)) -> S × Int -> Option (Sum S Bool)} {n : Nat} (s : Nat -> S) (bad : Nat -> Bool) (hn : n <= lim) (h1 : ∀ k,k < n -> ∀ rec,B rec (s k,(k : Int)) = cond (bad k) (some (.inr false)) (rec (s (k + 1),((k + 1 : Nat) : Int)))) (h2 : ∀ rec,B rec (s n,(n : Int)) = some (.inl (s n))) :
  Al B fz (s 0,0) = some (cond ((List.range n).any bad) (.inr false) (.inl (s n))):=by
 have key : ∀ d k,k + d = n -> (∀ j,j < k -> bad j = false) -> ∀ m,d < m -> Al B m (s k,(k : Int)) = some (cond ((List.range n).any bad) (.inr false) (.inl (s n))):=by
  intro d
  induction d with
  | zero =>
   intro k hk hb m hm
   cases m with
   | zero => omega
   | succ m =>
    have hkn : k = n:=by omega
    have : (List.range n).any bad = false:=by
     rw [List.any_eq_false]
     intro x hx
     rw [hb x (by have:=List.mem_range.1 hx; omega)]; simp
    show B (Al B m) (s k,(k : Int)) = _
    rw [hkn,h2,this]; rfl
  | succ d ih =>
   intro k hk hb m hm
   cases m with
   | zero => omega
   | succ m =>
    show B (Al B m) (s k,(k : Int)) = _
    rw [h1 k (by omega)]
    cases hbk : bad k with
    | true =>
     have : (List.range n).any bad = true:=by rw [List.any_eq_true]; exact ⟨k,List.mem_range.2 (by omega),hbk⟩
     rw [this]; rfl
    | false =>
     exact ih (k + 1) (by omega) (fun j hj => by
      rcases Nat.lt_or_ge j k with h | h
      ·exact hb j h
      ·rw [show j = k by omega]; exact hbk) m (by omega)
 have:=key n 0 (by omega) (fun j hj => absurd hj (by omega)) fz (Ii hn)
 simpa using this
def NA (l : List Int) (v : Int) : Option Nat:=(List.range l.length).findSome? fun k => if (atB l k fun e => e == v) = true then some k else none
theorem Mh (l : List Int) (v : Int) : (NA l v).isSome = l.contains v:=by
 unfold NA
 rw [Bool.eq_iff_iff,List.findSome?_isSome_iff,List.contains_iff_mem]
 constructor
 ·rintro ⟨k,hk,h⟩
  have hk:=List.mem_range.1 hk
  split at h
  ·rename_i he; rw [AN hk] at he; have : l[k] = v:=by simpa using he
   rw [<- this]; exact List.getElem_mem hk
  ·cases h
 ·intro h
  obtain ⟨k,hk,rfl⟩:=List.mem_iff_getElem.1 h
  exact ⟨k,List.mem_range.2 hk,by rw [AN hk]; simp⟩
def Cg (l : List Int) (v : Int) : Int:=match NA l v with
 | some k => (k : Int)
 | none => -1
theorem Jw (l : List Int) (v : Int) : decide (0 <= Cg l v) = l.contains v:=by
 rw [<- Mh]
 unfold Cg
 cases NA l v with
 | some k => simp
 | none => rfl
theorem cd {l : List Int} (h : l.length <= lim) (v : Int) : IY l v = some (Cg l v):=by
 unfold IY Cg NA
 rw [N6 (O:=Int) (fun k => if (atB l k fun e => e == v) = true then some (k : Int) else none) h (fun k hk rec => by
  unfold H7
  rw [AF hk,Aj hk,AO hk (At h),AN hk]
  simp only [cond_true,Ad]
  cases (l[k] == v) <;> rfl) (fun rec => by unfold H7; rw [Az]; rfl)]
 have e : ((List.range l.length).findSome? fun k => if (atB l k fun e => e == v) = true then some (k : Int) else none) = ((List.range l.length).findSome? fun k => if (atB l k fun e => e == v) = true then some k else none).map (fun k : Nat => (k : Int)):=by
  rw [List.map_findSome?]
  congr 1
  funext k
  simp only [Function.comp]
  split <;> rfl
 rw [e]
 cases (List.range l.length).findSome? fun k => if (atB l k fun e => e == v) = true then some k else none <;> rfl
theorem KP {l : List Int} (h : l.length <= lim) (v : Int) : Fl l v = some (Cg l v):=by
 unfold Fl Cg NA
 rw [N6 (O:=Int) (fun k => if (atB l k fun e => e == v) = true then some (k : Int) else none) h (fun k hk rec => by
  unfold Hq
  rw [AF hk,Aj hk,AO hk (At h),AN hk]
  simp only [cond_true,Ad]
  cases (l[k] == v) <;> rfl) (fun rec => by unfold Hq; rw [Az]; rfl)]
 have e : ((List.range l.length).findSome? fun k => if (atB l k fun e => e == v) = true then some (k : Int) else none) = ((List.range l.length).findSome? fun k => if (atB l k fun e => e == v) = true then some k else none).map (fun k : Nat => (k : Int)):=by
  rw [List.map_findSome?]
  congr 1
  funext k
  simp only [Function.comp]
  split <;> rfl
 rw [e]
 cases (List.range l.length).findSome? fun k => if (atB l k fun e => e == v) = true then some k else none <;> rfl
theorem aq {l : List Int} (h : l.length <= lim) (v : Int) : HQ l v = some (l.contains v):=by
 unfold HQ
 simp only [KP h,Ad,Jw]
abbrev Atm:=List UInt8 × List Int
abbrev Qry:=Int × List Atm × List Int
theorem iX {a : Atm} (h : a.2.length <= lim) (v : Int) : C4 a v = some (a.2.contains v):=by
 unfold C4
 rw [N6 (O:=Bool) (fun k => if (atB a.2 k fun e => e == v) = true then some true else none) h (fun k hk rec => by
  unfold Df
  rw [AF hk,Aj hk,AO hk (At h),AN hk]
  simp only [cond_true,Ad]
  cases (a.2[k] == v) <;> rfl) (fun rec => by unfold Df; rw [Az]; rfl)]
 rw [<- Mh]
 have e : ((List.range a.2.length).findSome? fun k => if (atB a.2 k fun e => e == v) = true then some true else none) = (NA a.2 v).map (fun _ => true):=by
  unfold NA
  rw [List.map_findSome?]
  congr 1
  funext k
  simp only [Function.comp]
  split <;> rfl
 rw [e]
 cases NA a.2 v <;> rfl
def IU (n : Int) (l : List Int) (k : Nat) (e : Int) : Bool := !btw e 0 (IntKind.i64.wrap (n - 1)) || (l.take k).contains e
theorem PQ {α : Type} (l : List α) (k : Nat) : BX l 0 (k : Int) = l.take k:=by simp [BX]
theorem ef {l : List Int} (h : l.length <= lim) (n : Int) : Ig l n = some (!AU l (IU n l)):=by
 unfold Ig AU
 rw [Bm (fun k => atB l k (IU n l k)) h (fun k hk rec => by
  unfold Hr
  rw [AF hk,Aj hk,AO hk (At h),AN hk]
  simp only [cond_true,Ad,HZ]
  rw [Ak (by omega),PQ]
  simp only [aq (l:=l.take k) (by rw [List.length_take]; omega),IU]
  cases btw l[k] 0 (IntKind.i64.wrap (n - 1)) <;> rfl) (fun rec => by unfold Hr; rw [Az]; rfl)]
 cases (List.range l.length).any fun k => atB l k (IU n l k) <;> rfl
def IN (n : Int) (a : Atm) : Bool := !nmB a.1 || (!btw (a.2.length : Int) 1 5 || AU a.2 fun _ v => !btw v 0 (IntKind.i64.wrap (n - 1)))
def smQ (q : Qry) : Prop:=q.2.1.length <= lim ∧ (∀ a ∈ q.2.1,a.1.length <= lim ∧ a.2.length <= lim) ∧ q.2.2.length <= lim
def HH (l : List Atm) (v : Int) : Bool:=l.any fun a => a.2.contains v
theorem Zb {q : Qry} (h : smQ q) : Al (Dp q) fz 0 = some (cond (AU q.2.1 fun _ a => IN q.1 a) (.inr false) (.inl ())):=by
 unfold AU
 refine Bm (fun k => atB q.2.1 k fun a => IN q.1 a) h.1 (fun k hk rec => ?_) (fun rec => by unfold Dp; rw [Az]; rfl)
 have ha:=h.2.1 _ (List.getElem_mem hk)
 unfold Dp
 rw [AF hk,Aj hk,AO hk (At h.1),AN hk]
 simp only [cond_true,Ad,XD ha.1,KS,IN]
 cases nmB q.2.1[k].1 with
 | false => rfl
 | true =>
  cases btw (q.2.1[k].2.length : Int) 1 5 with
  | false => rfl
  | true =>
   simp only [Bool.not_true,cond_false,Bool.false_or]
   rw [Bm (fun j => atB q.2.1[k].2 j fun v => !btw v 0 (IntKind.i64.wrap (q.1 - 1))) ha.2 (fun j hj rec => by
    unfold EZ
    rw [Aj hk]
    simp only [Ad]
    rw [AF hj,Aj hj,AO hj (At ha.2),AN hj]
    simp only [cond_true,KS]) (fun rec => by unfold EZ; rw [Aj hk]; simp only [Ad]; rw [Az]; rfl)]
   unfold AU
   cases (List.range q.2.1[k].2.length).any fun j => atB q.2.1[k].2 j fun v => !btw v 0 (IntKind.i64.wrap (q.1 - 1)) <;> rfl
theorem cl {q : Qry} (h : smQ q) (v : Int) : Al (BN q v) fz (false,0) = some (HH q.2.1 v):=by
 have:=Ed (body:=BN q v) (out:=HH q.2.1 v) (fun k => (HH (q.2.1.take k) v,(k : Int))) q.2.1.length (fun k hk rec => by
  have ha:=h.2.1 _ (List.getElem_mem hk)
  unfold BN Dt
  simp only
  rw [AF hk,Aj hk,AO hk (At h.1)]
  simp only [cond_true,Ad,iX ha.2]
  have e : HH (q.2.1.take (k + 1)) v = (HH (q.2.1.take k) v || q.2.1[k].2.contains v):=by
   unfold HH
   rw [List.take_succ_eq_append_getElem hk,List.any_append]; simp
  rw [e]
  cases HH (q.2.1.take k) v <;> rfl) (fun rec => by unfold BN; simp only; rw [Az,List.take_length]; rfl) fz (Ii h.1)
 simpa [HH] using this
theorem Ze {q : Qry} (h : smQ q) (hn : 1 <= q.1 ∧ q.1 <= 5) : Al (Dq q) fz 0 = some (cond ((List.range q.1.toNat).any fun v => !HH q.2.1 (v : Int)) (.inr false) (.inl ())):=by
 have e : q.1 = (q.1.toNat : Int):=by omega
 refine Bm (fun v => !HH q.2.1 (v : Int)) (by unfold lim; omega) (fun k hk rec => ?_) (fun rec => by
  unfold Dq
  rw [decide_eq_false (by omega : ¬ ((q.1.toNat : Nat) : Int) < q.1)]; rfl)
 unfold Dq
 rw [decide_eq_true (by omega : (k : Int) < q.1),cl h,wrap_in (by omega)]
 simp only [cond_true,Ad]
 rfl
theorem gE {q : Qry} (h : smQ q) : Al (Ds q) fz 0 = some (cond (AU q.2.2 (IU q.1 q.2.2)) (.inr false) (.inl ())):=by
 unfold AU
 refine Bm (fun k => atB q.2.2 k (IU q.1 q.2.2 k)) h.2.2 (fun k hk rec => ?_) (fun rec => by unfold Ds; rw [Az]; rfl)
 unfold Ds
 rw [AF hk,Aj hk,AO hk (At h.2.2),AN hk]
 simp only [cond_true,Ad,KS]
 rw [Ak (by omega),PQ]
 simp only [cd (l:=q.2.2.take k) (by rw [List.length_take]; have:=h.2.2; omega),Jw,IU]
 cases btw q.2.2[k] 0 (IntKind.i64.wrap (q.1 - 1)) <;> rfl
def Oc (q : Qry) : Bool:=btw q.1 1 5 && (btw (q.2.1.length : Int) 1 4 && (!AU q.2.2 (IU q.1 q.2.2) && (!(AU q.2.1 fun _ a => IN q.1 a) && !((List.range q.1.toNat).any fun v => !HH q.2.1 (v : Int)))))
theorem few : ∀ (n : Nat) (l : List Int),l.Nodup -> (∀ e ∈ l,0 <= e ∧ e < (n : Int)) -> l.length <= n
 | 0,l,_,h => by
  cases l with
  | nil => simp
  | cons e l => have:=h e (by simp); omega
 | n + 1,l,hd,h => by
  have h1:=few n (l.erase (n : Int)) (hd.erase _) (fun e he => by
   have h2:=h e (List.mem_of_mem_erase he)
   have h3 : e ≠ (n : Int):=fun q => by subst q; exact (List.Nodup.not_mem_erase hd) he
   omega)
  have h2:=List.length_erase (a:=(n : Int)) (l:=l)
  split at h2 <;> omega
theorem Vg {n : Int} (hn : 1 <= n ∧ n <= 5) {l : List Int} (h : AU l (IU n l) = false) : (l.length : Int) <= n:=by
 have hw : IntKind.i64.wrap (n - 1) = n - 1:=wrap_in (by omega)
 have hin : ∀ e ∈ l,0 <= e ∧ e < (n.toNat : Int):=by
  intro e he
  obtain ⟨k,hk,rfl⟩:=List.mem_iff_getElem.1 he
  have:=GX h hk
  unfold IU btw at this
  simp only [Bool.or_eq_false_iff,Bool.not_eq_false',Bool.and_eq_true,decide_eq_true_eq,hw] at this
  omega
 have hd : l.Nodup:=by
  rw [List.nodup_iff_pairwise_ne,List.pairwise_iff_getElem]
  intro i j hi hj hij he
  have:=GX h hj
  unfold IU at this
  simp only [Bool.or_eq_false_iff] at this
  have h2:=this.2
  have : (l.take j).contains l[j] = true:=by
   rw [List.contains_iff_mem,List.mem_iff_getElem]
   exact ⟨i,by rw [List.length_take]; omega,by rw [List.getElem_take]; exact he⟩
  rw [this] at h2; cases h2
 have:=few n.toNat l hd hin
 omega
theorem Vc {q : Qry} (h : smQ q) : CS q = some (Oc q):=by
 unfold CS Oc
 simp only [KS,Ad,Zb h,gE h]
 cases hb : btw q.1 1 5 with
 | false => rfl
 | true =>
  have hn : 1 <= q.1 ∧ q.1 <= 5:=by unfold btw at hb; simpa using hb
  rw [Ze h hn]
  cases btw (q.2.1.length : Int) 1 4 with
  | false => rfl
  | true =>
   by_cases hl : q.1 < (q.2.2.length : Int)
   ·rw [decide_eq_true hl]
    have : AU q.2.2 (IU q.1 q.2.2) = true:=by
     cases hs : AU q.2.2 (IU q.1 q.2.2) with
     | true => rfl
     | false => have:=Vg hn hs; omega
    rw [this]; rfl
   ·rw [decide_eq_false hl]
    cases AU q.2.2 (IU q.1 q.2.2) <;> cases (AU q.2.1 fun _ a => IN q.1 a) <;> cases ((List.range q.1.toNat).any fun v => !HH q.2.1 (v : Int)) <;> rfl
def uL (m : Nat) (f : Nat -> Bool) : List Bool:=(List.range m).map f
theorem SO (m : Nat) (f : Nat -> Bool) : (uL m f).length = m:=by simp [uL]
theorem cw {m v : Nat} (f : Nat -> Bool) : (uL m f).set v true = uL m (fun u => f u || u == v):=by
 apply List.ext_getElem
 ·simp [uL]
 ·intro i h1 h2
  rw [List.getElem_set]
  simp only [uL,List.getElem_map,List.getElem_range]
  split
  ·rename_i e; subst e; simp
  ·rename_i e
   have : (i == v) = false:=by simp; omega
   rw [this]; simp
theorem Yf {q : Qry} (h : smQ q) (hn : 1 <= q.1 ∧ q.1 <= 5) : Al (Cs q) fz (List.replicate (Int.toNat q.1) false,0) = some (cond (AU q.2.1 fun _ a => IN q.1 a) (.inr false) (.inl (uL q.1.toNat fun v => HH q.2.1 (v : Int)))):=by
 have hw : IntKind.i64.wrap (q.1 - 1) = q.1 - 1:=wrap_in (by omega)
 have h0 : List.replicate (Int.toNat q.1) false = uL q.1.toNat fun v => HH (q.2.1.take 0) (v : Int):=by
  unfold uL HH
  simp [List.map_const']
 rw [h0]
 unfold AU
 have:=WY (B:=Cs q) (n:=q.2.1.length) (fun k => uL q.1.toNat fun v => HH (q.2.1.take k) (v : Int)) (fun k => atB q.2.1 k fun a => IN q.1 a) h.1 (fun k hk rec => by
  have ha:=h.2.1 _ (List.getElem_mem hk)
  unfold Cs
  simp only
  rw [AF hk,Aj hk,AO hk (At h.1),AN hk]
  simp only [cond_true,Ad,Xf ha.1,HZ,IN]
  cases nmB q.2.1[k].1 with
  | false => rfl
  | true =>
   cases btw (q.2.1[k].2.length : Int) 1 5 with
   | false => rfl
   | true =>
    simp only [Bool.not_true,cond_false,Bool.false_or]
    have hin:=WY (B:=Dn q q.2.1[k]) (n:=q.2.1[k].2.length) (fun j => uL q.1.toNat fun v => HH (q.2.1.take k) (v : Int) || (q.2.1[k].2.take j).contains (v : Int)) (fun j => atB q.2.1[k].2 j fun v => !btw v 0 (IntKind.i64.wrap (q.1 - 1))) ha.2 (fun j hj rec => by
     unfold Dn
     simp only
     rw [AF hj,Aj hj,AO hj (At ha.2),AN hj]
     simp only [cond_true,Ad,HZ]
     cases hb : btw q.2.1[k].2[j] 0 (IntKind.i64.wrap (q.1 - 1)) with
     | false => rfl
     | true =>
      have hv : 0 <= q.2.1[k].2[j] ∧ q.2.1[k].2[j] <= q.1 - 1:=by rw [hw] at hb; unfold btw at hb; simpa using hb
      have hvn : q.2.1[k].2[j] = ((q.2.1[k].2[j].toNat : Nat) : Int):=by omega
      simp only [Bool.not_true,cond_false]
      rw [hvn,Aj (by rw [SO]; omega)]
      simp only
      congr 2
      unfold It
      rw [Int.toNat_natCast,cw _]
      congr 1
      funext u
      rw [List.take_succ_eq_append_getElem hj,List.contains_append,Bool.or_assoc]
      congr 1
      congr 1
      rw [hvn]
      simp only [List.contains_cons,List.contains_nil,Bool.or_false]
      rw [Bool.eq_iff_iff]
      simp
      omega) (fun rec => by unfold Dn; simp only; rw [Az]; rfl)
    have e0 : (uL q.1.toNat fun v => HH (q.2.1.take k) (v : Int) || (q.2.1[k].2.take 0).contains (v : Int)) = uL q.1.toNat fun v => HH (q.2.1.take k) (v : Int):=by
     unfold uL; simp
    have e1 : (uL q.1.toNat fun v => HH (q.2.1.take k) (v : Int) || (q.2.1[k].2.take q.2.1[k].2.length).contains (v : Int)) = uL q.1.toNat fun v => HH (q.2.1.take (k + 1)) (v : Int):=by
     congr 1
     funext v
     unfold HH
     rw [List.take_length,List.take_succ_eq_append_getElem hk,List.any_append]; simp
    simp only [e0,e1] at hin
    rw [hin]
    unfold AU
    cases (List.range q.2.1[k].2.length).any fun j => atB q.2.1[k].2 j fun v => !btw v 0 (IntKind.i64.wrap (q.1 - 1)) <;> rfl) (fun rec => by unfold Cs; simp only; rw [Az]; rfl)
 rw [List.take_length] at this
 exact this
theorem Yl {q : Qry} (h : smQ q) : E3 q = some (Oc q):=by
 unfold E3 Oc
 simp only [HZ,Ad,ef h.2.2]
 cases hb : btw q.1 1 5 with
 | false => rfl
 | true =>
  have hn : 1 <= q.1 ∧ q.1 <= 5:=by unfold btw at hb; simpa using hb
  cases btw (q.2.1.length : Int) 1 4 with
  | false => rfl
  | true =>
   cases AU q.2.2 (IU q.1 q.2.2) with
   | true => rfl
   | false =>
    simp only [Bool.not_true,Bool.not_false,cond_false,Bool.true_and]
    rw [Ak (by unfold lim; omega),Yf h hn]
    cases (AU q.2.1 fun _ a => IN q.1 a) with
    | true => rfl
    | false =>
     simp only [cond_false,Bool.not_false,Bool.true_and]
     rw [Bm (n:=(uL q.1.toNat fun v => HH q.2.1 (v : Int)).length) (fun k => !HH q.2.1 (k : Int)) (by rw [SO]; unfold lim; omega) (fun k hk rec => by
      unfold ET
      rw [AF hk,Aj hk,AO hk (by rw [SO]; unfold maxLen; omega)]
      simp only [cond_true,Ad,uL,List.getElem_map,List.getElem_range]) (fun rec => by unfold ET; rw [Az]; rfl),SO]
     cases (List.range q.1.toNat).any fun v => !HH q.2.1 (v : Int) <;> rfl
theorem HN {α : Type} {l : List α} {f : α -> Bool} (h : AU l (fun _ e => f e) = false) {a : α} (ha : a ∈ l) : f a = false:=by
 obtain ⟨k,hk,rfl⟩:=List.mem_iff_getElem.1 ha
 exact GX h hk
theorem Hv {q : Qry} (h : Oc q = true) : 1 <= q.1 ∧ q.1 <= 5 ∧ q.2.1.length <= 4 ∧ ∀ a ∈ q.2.1,1 <= a.2.length ∧ a.2.length <= 5 ∧ ∀ v ∈ a.2,0 <= v ∧ v < q.1:=by
 unfold Oc at h
 simp only [Bool.and_eq_true,Bool.not_eq_true'] at h
 obtain ⟨h1,h2,-,h4,-⟩:=h
 have e1 : 1 <= q.1 ∧ q.1 <= 5:=by unfold btw at h1; simpa using h1
 have e2 : 1 <= (q.2.1.length : Int) ∧ (q.2.1.length : Int) <= 4:=by unfold btw at h2; simpa using h2
 refine ⟨e1.1,e1.2,by omega,fun a ha => ?_⟩
 have h5:=HN h4 ha
 unfold IN at h5
 simp only [Bool.or_eq_false_iff,Bool.not_eq_false'] at h5
 have e3 : 1 <= (a.2.length : Int) ∧ (a.2.length : Int) <= 5:=by have:=h5.2.1; unfold btw at this; simpa using this
 refine ⟨by omega,by omega,fun v hv => ?_⟩
 have h6:=HN h5.2.2 hv
 simp only [Bool.not_eq_false'] at h6
 rw [wrap_in (by omega)] at h6
 have : 0 <= v ∧ v <= q.1 - 1:=by unfold btw at h6; simpa using h6
 omega
end Go.Proofs.YtklcofndjkjldaaGreat
