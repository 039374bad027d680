/-
 When a query is valid: the reference and the program agree. On the printed functions; conditions: lengths.
-/
import Derived.Test.YtpcbnmcfplioeaaGreatFhNC1
namespace Go.Proofs.YtpcbnmcfplioeaaGreat
open Go.RowKit
set_option linter.unusedSimpArgs false
theorem bd {S : Type} {B : (S × Int -> Option (Sum S Bool)) -> S × Int -> Option (Sum S Bool)} {n : Nat} (s : Nat -> S) (bad : Nat -> Bool) (hn : n <= lim) (h1 : ∀ k,k < n -> ∀ rec,B rec (s k,(k : Int)) = cond (bad k) (some (.inr false)) (rec (s (k + 1),((k + 1 : Nat) : Int)))) (h2 : ∀ rec,B rec (s n,(n : Int)) = some (.inl (s n))) :
  Ao B fz (s 0,0) = some (cond ((List.range n).any bad) (.inr false) (.inl (s n))):=by
 have key : ∀ d k,k + d = n -> (∀ j,j < k -> bad j = false) -> ∀ m,d < m -> Ao B m (s k,(k : Int)) = some (cond ((List.range n).any bad) (.inr false) (.inl (s n))):=by
  intro d
  induction d with
  | zero =>
   intro k hk hb m hm
   cases m with
   | zero => omega
   | succ m =>
    have hkn : k = n:=by omega
    have : (List.range n).any bad = false:=by
     rw [List.any_eq_false]
     intro x hx
     rw [hb x (by have:=List.mem_range.1 hx; omega)]; simp
    show B (Ao B m) (s k,(k : Int)) = _
    rw [hkn,h2,this]; rfl
  | succ d ih =>
   intro k hk hb m hm
   cases m with
   | zero => omega
   | succ m =>
    show B (Ao B m) (s k,(k : Int)) = _
    rw [h1 k (by omega)]
    cases hbk : bad k with
    | true =>
     have : (List.range n).any bad = true:=by rw [List.any_eq_true]; exact ⟨k,List.mem_range.2 (by omega),hbk⟩
     rw [this]; rfl
    | false =>
     exact ih (k + 1) (by omega) (fun j hj => by
      rcases Nat.lt_or_ge j k with h | h
      ·exact hb j h
      ·rw [show j = k by omega]; exact hbk) m (by omega)
 have:=key n 0 (by omega) (fun j hj => absurd hj (by omega)) fz (HP hn)
 simpa using this
def PY (l : List Int) (v : Int) : Option Nat:=(List.range l.length).findSome? fun k => if (atB l k fun e => e == v) = true then some k else none
theorem N6 (l : List Int) (v : Int) : (PY l v).isSome = l.contains v:=by
 unfold PY
 rw [Bool.eq_iff_iff,List.findSome?_isSome_iff,List.contains_iff_mem]
 constructor
 ·rintro ⟨k,hk,h⟩
  have hk:=List.mem_range.1 hk
  split at h
  ·rename_i he; rw [AY hk] at he; have : l[k] = v:=by simpa using he
   rw [<- this]; exact List.getElem_mem hk
  ·cases h
 ·intro h
  obtain ⟨k,hk,rfl⟩:=List.mem_iff_getElem.1 h
  exact ⟨k,List.mem_range.2 hk,by rw [AY hk]; simp⟩
def Cc (l : List Int) (v : Int) : Int:=match PY l v with
 | some k => (k : Int)
 | none => -1
theorem KO (l : List Int) (v : Int) : decide (0 <= Cc l v) = l.contains v:=by
 rw [<- N6]
 unfold Cc
 cases PY l v with
 | some k => simp
 | none => rfl
theorem kz {l : List Int} (h : l.length <= lim) (v : Int) : JX l v = some (Cc l v):=by
 unfold JX Cc PY
 rw [Qt (O:=Int) (fun k => if (atB l k fun e => e == v) = true then some (k : Int) else none) h (fun k hk rec => by
  unfold Iu
  rw [AL hk,Am hk,AS hk (AA h),AY hk]
  simp only [cond_true,Ad]
  cases (l[k] == v) <;> rfl) (fun rec => by unfold Iu; rw [AG]; rfl)]
 have e : ((List.range l.length).findSome? fun k => if (atB l k fun e => e == v) = true then some (k : Int) else none) = ((List.range l.length).findSome? fun k => if (atB l k fun e => e == v) = true then some k else none).map (fun k : Nat => (k : Int)):=by
  rw [List.map_findSome?]
  congr 1
  funext k
  simp only [Function.comp]
  split <;> rfl
 rw [e]
 cases (List.range l.length).findSome? fun k => if (atB l k fun e => e == v) = true then some k else none <;> rfl
theorem Mt {l : List Int} (h : l.length <= lim) (v : Int) : Ft l v = some (Cc l v):=by
 unfold Ft Cc PY
 rw [Qt (O:=Int) (fun k => if (atB l k fun e => e == v) = true then some (k : Int) else none) h (fun k hk rec => by
  unfold HI
  rw [AL hk,Am hk,AS hk (AA h),AY hk]
  simp only [cond_true,Ad]
  cases (l[k] == v) <;> rfl) (fun rec => by unfold HI; rw [AG]; rfl)]
 have e : ((List.range l.length).findSome? fun k => if (atB l k fun e => e == v) = true then some (k : Int) else none) = ((List.range l.length).findSome? fun k => if (atB l k fun e => e == v) = true then some k else none).map (fun k : Nat => (k : Int)):=by
  rw [List.map_findSome?]
  congr 1
  funext k
  simp only [Function.comp]
  split <;> rfl
 rw [e]
 cases (List.range l.length).findSome? fun k => if (atB l k fun e => e == v) = true then some k else none <;> rfl
theorem gL {l : List Int} (h : l.length <= lim) (v : Int) : H6 l v = some (l.contains v):=by
 unfold H6
 simp only [Mt h,Ad,KO]
abbrev Atm:=List UInt8 × List Int
abbrev Qry:=Int × List Atm × List Int
theorem pW {a : Atm} (h : a.2.length <= lim) (v : Int) : Dk a v = some (a.2.contains v):=by
 unfold Dk
 rw [Qt (O:=Bool) (fun k => if (atB a.2 k fun e => e == v) = true then some true else none) h (fun k hk rec => by
  unfold Du
  rw [AL hk,Am hk,AS hk (AA h),AY hk]
  simp only [cond_true,Ad]
  cases (a.2[k] == v) <;> rfl) (fun rec => by unfold Du; rw [AG]; rfl)]
 rw [<- N6]
 have e : ((List.range a.2.length).findSome? fun k => if (atB a.2 k fun e => e == v) = true then some true else none) = (PY a.2 v).map (fun _ => true):=by
  unfold PY
  rw [List.map_findSome?]
  congr 1
  funext k
  simp only [Function.comp]
  split <;> rfl
 rw [e]
 cases PY a.2 v <;> rfl
def JT (n : Int) (l : List Int) (k : Nat) (e : Int) : Bool := !btw e 0 (IntKind.i64.wrap (n - 1)) || (l.take k).contains e
theorem SC {α : Type} (l : List α) (k : Nat) : Ey l 0 (k : Int) = l.take k:=by simp [Ey]
theorem mJ {l : List Int} (h : l.length <= lim) (n : Int) : ID l n = some (!A1 l (JT n l)):=by
 unfold ID A1
 rw [BS (fun k => atB l k (JT n l k)) h (fun k hk rec => by
  unfold HJ
  rw [AL hk,Am hk,AS hk (AA h),AY hk]
  simp only [cond_true,Ad,I9]
  rw [Ap (by omega),SC]
  simp only [gL (l:=l.take k) (by rw [List.length_take]; omega),JT]
  cases btw l[k] 0 (IntKind.i64.wrap (n - 1)) <;> rfl) (fun rec => by unfold HJ; rw [AG]; rfl)]
 cases (List.range l.length).any fun k => atB l k (JT n l k) <;> rfl
def Kn (n : Int) (a : Atm) : Bool := !nmB a.1 || (!btw (a.2.length : Int) 1 5 || A1 a.2 fun _ v => !btw v 0 (IntKind.i64.wrap (n - 1)))
def smQ (q : Qry) : Prop:=q.2.1.length <= lim ∧ (∀ a ∈ q.2.1,a.1.length <= lim ∧ a.2.length <= lim) ∧ q.2.2.length <= lim
def H0 (l : List Atm) (v : Int) : Bool:=l.any fun a => a.2.contains v
theorem eE {q : Qry} (h : smQ q) : Ao (DC q) fz 0 = some (cond (A1 q.2.1 fun _ a => Kn q.1 a) (.inr false) (.inl ())):=by
 unfold A1
 refine BS (fun k => atB q.2.1 k fun a => Kn q.1 a) h.1 (fun k hk rec => ?_) (fun rec => by unfold DC; rw [AG]; rfl)
 have ha:=h.2.1 _ (List.getElem_mem hk)
 unfold DC
 rw [AL hk,Am hk,AS hk (AA h.1),AY hk]
 simp only [cond_true,Ad,b9 ha.1,NH,Kn]
 cases nmB q.2.1[k].1 with
 | false => rfl
 | true =>
  cases btw (q.2.1[k].2.length : Int) 1 5 with
  | false => rfl
  | true =>
   simp only [Bool.not_true,cond_false,Bool.false_or]
   rw [BS (fun j => atB q.2.1[k].2 j fun v => !btw v 0 (IntKind.i64.wrap (q.1 - 1))) ha.2 (fun j hj rec => by
    unfold E7
    rw [Am hk]
    simp only [Ad]
    rw [AL hj,Am hj,AS hj (AA ha.2),AY hj]
    simp only [cond_true,NH]) (fun rec => by unfold E7; rw [Am hk]; simp only [Ad]; rw [AG]; rfl)]
   unfold A1
   cases (List.range q.2.1[k].2.length).any fun j => atB q.2.1[k].2 j fun v => !btw v 0 (IntKind.i64.wrap (q.1 - 1)) <;> rfl
theorem kH {q : Qry} (h : smQ q) (v : Int) : Ao (BQ q v) fz (false,0) = some (H0 q.2.1 v):=by
 have:=DN (body:=BQ q v) (out:=H0 q.2.1 v) (fun k => (H0 (q.2.1.take k) v,(k : Int))) q.2.1.length (fun k hk rec => by
  have ha:=h.2.1 _ (List.getElem_mem hk)
  unfold BQ DF
  simp only
  rw [AL hk,Am hk,AS hk (AA h.1)]
  simp only [cond_true,Ad,pW ha.2]
  have e : H0 (q.2.1.take (k + 1)) v = (H0 (q.2.1.take k) v || q.2.1[k].2.contains v):=by
   unfold H0
   rw [List.take_succ_eq_append_getElem hk,List.any_append]; simp
  rw [e]
  cases H0 (q.2.1.take k) v <;> rfl) (fun rec => by unfold BQ; simp only; rw [AG,List.take_length]; rfl) fz (HP h.1)
 simpa [H0] using this
theorem eF {q : Qry} (h : smQ q) (hn : 1 <= q.1 ∧ q.1 <= 5) : Ao (DD q) fz 0 = some (cond ((List.range q.1.toNat).any fun v => !H0 q.2.1 (v : Int)) (.inr false) (.inl ())):=by
 have e : q.1 = (q.1.toNat : Int):=by omega
 refine BS (fun v => !H0 q.2.1 (v : Int)) (by unfold lim; omega) (fun k hk rec => ?_) (fun rec => by
  unfold DD
  rw [decide_eq_false (by omega : ¬ ((q.1.toNat : Nat) : Int) < q.1)]; rfl)
 unfold DD
 rw [decide_eq_true (by omega : (k : Int) < q.1),kH h,wrap_in (by omega)]
 simp only [cond_true,Ad]
 rfl
theorem oA {q : Qry} (h : smQ q) : Ao (DE q) fz 0 = some (cond (A1 q.2.2 (JT q.1 q.2.2)) (.inr false) (.inl ())):=by
 unfold A1
 refine BS (fun k => atB q.2.2 k (JT q.1 q.2.2 k)) h.2.2 (fun k hk rec => ?_) (fun rec => by unfold DE; rw [AG]; rfl)
 unfold DE
 rw [AL hk,Am hk,AS hk (AA h.2.2),AY hk]
 simp only [cond_true,Ad,NH]
 rw [Ap (by omega),SC]
 simp only [kz (l:=q.2.2.take k) (by rw [List.length_take]; have:=h.2.2; omega),KO,JT]
 cases btw q.2.2[k] 0 (IntKind.i64.wrap (q.1 - 1)) <;> rfl
def UH (q : Qry) : Bool:=btw q.1 1 5 && (btw (q.2.1.length : Int) 1 4 && (!A1 q.2.2 (JT q.1 q.2.2) && (!(A1 q.2.1 fun _ a => Kn q.1 a) && !((List.range q.1.toNat).any fun v => !H0 q.2.1 (v : Int)))))
theorem few : ∀ (n : Nat) (l : List Int),l.Nodup -> (∀ e ∈ l,0 <= e ∧ e < (n : Int)) -> l.length <= n
 | 0,l,_,h => by
  cases l with
  | nil => simp
  | cons e l => have:=h e (by simp); omega
 | n + 1,l,hd,h => by
  have h1:=few n (l.erase (n : Int)) (hd.erase _) (fun e he => by
   have h2:=h e (List.mem_of_mem_erase he)
   have h3 : e ≠ (n : Int):=fun q => by subst q; exact (List.Nodup.not_mem_erase hd) he
   omega)
  have h2:=List.length_erase (a:=(n : Int)) (l:=l)
  split at h2 <;> omega
theorem eO {n : Int} (hn : 1 <= n ∧ n <= 5) {l : List Int} (h : A1 l (JT n l) = false) : (l.length : Int) <= n:=by
 have hw : IntKind.i64.wrap (n - 1) = n - 1:=wrap_in (by omega)
 have hin : ∀ e ∈ l,0 <= e ∧ e < (n.toNat : Int):=by
  intro e he
  obtain ⟨k,hk,rfl⟩:=List.mem_iff_getElem.1 he
  have:=He h hk
  unfold JT btw at this
  simp only [Bool.or_eq_false_iff,Bool.not_eq_false',Bool.and_eq_true,decide_eq_true_eq,hw] at this
  omega
 have hd : l.Nodup:=by
  rw [List.nodup_iff_pairwise_ne,List.pairwise_iff_getElem]
  intro i j hi hj hij he
  have:=He h hj
  unfold JT at this
  simp only [Bool.or_eq_false_iff] at this
  have h2:=this.2
  have : (l.take j).contains l[j] = true:=by
   rw [List.contains_iff_mem,List.mem_iff_getElem]
   exact ⟨i,by rw [List.length_take]; omega,by rw [List.getElem_take]; exact he⟩
  rw [this] at h2; cases h2
 have:=few n.toNat l hd hin
 omega
theorem eJ {q : Qry} (h : smQ q) : Fo q = some (UH q):=by
 unfold Fo UH
 simp only [NH,Ad,eE h,oA h]
 cases hb : btw q.1 1 5 with
 | false => rfl
 | true =>
  have hn : 1 <= q.1 ∧ q.1 <= 5:=by unfold btw at hb; simpa using hb
  rw [eF h hn]
  cases btw (q.2.1.length : Int) 1 4 with
  | false => rfl
  | true =>
   by_cases hl : q.1 < (q.2.2.length : Int)
   ·rw [decide_eq_true hl]
    have : A1 q.2.2 (JT q.1 q.2.2) = true:=by
     cases hs : A1 q.2.2 (JT q.1 q.2.2) with
     | true => rfl
     | false => have:=eO hn hs; omega
    rw [this]; rfl
   ·rw [decide_eq_false hl]
    cases A1 q.2.2 (JT q.1 q.2.2) <;> cases (A1 q.2.1 fun _ a => Kn q.1 a) <;> cases ((List.range q.1.toNat).any fun v => !H0 q.2.1 (v : Int)) <;> rfl
def uL (m : Nat) (f : Nat -> Bool) : List Bool:=(List.range m).map f
theorem VY (m : Nat) (f : Nat -> Bool) : (uL m f).length = m:=by simp [uL]
theorem kP {m v : Nat} (f : Nat -> Bool) : (uL m f).set v true = uL m (fun u => f u || u == v):=by
 apply List.ext_getElem
 ·simp [uL]
 ·intro i h1 h2
  rw [List.getElem_set]
  simp only [uL,List.getElem_map,List.getElem_range]
  split
  ·rename_i e; subst e; simp
  ·rename_i e
   have : (i == v) = false:=by simp; omega
   rw [this]; simp
theorem c8 {q : Qry} (h : smQ q) (hn : 1 <= q.1 ∧ q.1 <= 5) : Ao (Cs q) fz (List.replicate (Int.toNat q.1) false,0) = some (cond (A1 q.2.1 fun _ a => Kn q.1 a) (.inr false) (.inl (uL q.1.toNat fun v => H0 q.2.1 (v : Int)))):=by
 have hw : IntKind.i64.wrap (q.1 - 1) = q.1 - 1:=wrap_in (by omega)
 have h0 : List.replicate (Int.toNat q.1) false = uL q.1.toNat fun v => H0 (q.2.1.take 0) (v : Int):=by
  unfold uL H0
  simp [List.map_const']
 rw [h0]
 unfold A1
 have:=bd (B:=Cs q) (n:=q.2.1.length) (fun k => uL q.1.toNat fun v => H0 (q.2.1.take k) (v : Int)) (fun k => atB q.2.1 k fun a => Kn q.1 a) h.1 (fun k hk rec => by
  have ha:=h.2.1 _ (List.getElem_mem hk)
  unfold Cs
  simp only
  rw [AL hk,Am hk,AS hk (AA h.1),AY hk]
  simp only [cond_true,Ad,bA ha.1,I9,Kn]
  cases nmB q.2.1[k].1 with
  | false => rfl
  | true =>
   cases btw (q.2.1[k].2.length : Int) 1 5 with
   | false => rfl
   | true =>
    simp only [Bool.not_true,cond_false,Bool.false_or]
    have hin:=bd (B:=DB q q.2.1[k]) (n:=q.2.1[k].2.length) (fun j => uL q.1.toNat fun v => H0 (q.2.1.take k) (v : Int) || (q.2.1[k].2.take j).contains (v : Int)) (fun j => atB q.2.1[k].2 j fun v => !btw v 0 (IntKind.i64.wrap (q.1 - 1))) ha.2 (fun j hj rec => by
     unfold DB
     simp only
     rw [AL hj,Am hj,AS hj (AA ha.2),AY hj]
     simp only [cond_true,Ad,I9]
     cases hb : btw q.2.1[k].2[j] 0 (IntKind.i64.wrap (q.1 - 1)) with
     | false => rfl
     | true =>
      have hv : 0 <= q.2.1[k].2[j] ∧ q.2.1[k].2[j] <= q.1 - 1:=by rw [hw] at hb; unfold btw at hb; simpa using hb
      have hvn : q.2.1[k].2[j] = ((q.2.1[k].2[j].toNat : Nat) : Int):=by omega
      simp only [Bool.not_true,cond_false]
      rw [hvn,Am (by rw [VY]; omega)]
      simp only
      congr 2
      unfold Jr
      rw [Int.toNat_natCast,kP _]
      congr 1
      funext u
      rw [List.take_succ_eq_append_getElem hj,List.contains_append,Bool.or_assoc]
      congr 1
      congr 1
      rw [hvn]
      simp only [List.contains_cons,List.contains_nil,Bool.or_false]
      rw [Bool.eq_iff_iff]
      simp
      omega) (fun rec => by unfold DB; simp only; rw [AG]; rfl)
    have e0 : (uL q.1.toNat fun v => H0 (q.2.1.take k) (v : Int) || (q.2.1[k].2.take 0).contains (v : Int)) = uL q.1.toNat fun v => H0 (q.2.1.take k) (v : Int):=by
     unfold uL; simp
    have e1 : (uL q.1.toNat fun v => H0 (q.2.1.take k) (v : Int) || (q.2.1[k].2.take q.2.1[k].2.length).contains (v : Int)) = uL q.1.toNat fun v => H0 (q.2.1.take (k + 1)) (v : Int):=by
     congr 1
     funext v
     unfold H0
     rw [List.take_length,List.take_succ_eq_append_getElem hk,List.any_append]; simp
    simp only [e0,e1] at hin
    rw [hin]
    unfold A1
    cases (List.range q.2.1[k].2.length).any fun j => atB q.2.1[k].2 j fun v => !btw v 0 (IntKind.i64.wrap (q.1 - 1)) <;> rfl) (fun rec => by unfold Cs; simp only; rw [AG]; rfl)
 rw [List.take_length] at this
 exact this
theorem de {q : Qry} (h : smQ q) : Fc q = some (UH q):=by
 unfold Fc UH
 simp only [I9,Ad,mJ h.2.2]
 cases hb : btw q.1 1 5 with
 | false => rfl
 | true =>
  have hn : 1 <= q.1 ∧ q.1 <= 5:=by unfold btw at hb; simpa using hb
  cases btw (q.2.1.length : Int) 1 4 with
  | false => rfl
  | true =>
   cases A1 q.2.2 (JT q.1 q.2.2) with
   | true => rfl
   | false =>
    simp only [Bool.not_true,Bool.not_false,cond_false,Bool.true_and]
    rw [Ap (by unfold lim; omega),c8 h hn]
    cases (A1 q.2.1 fun _ a => Kn q.1 a) with
    | true => rfl
    | false =>
     simp only [cond_false,Bool.not_false,Bool.true_and]
     rw [BS (n:=(uL q.1.toNat fun v => H0 q.2.1 (v : Int)).length) (fun k => !H0 q.2.1 (k : Int)) (by rw [VY]; unfold lim; omega) (fun k hk rec => by
      unfold E3
      rw [AL hk,Am hk,AS hk (by rw [VY]; unfold maxLen; omega)]
      simp only [cond_true,Ad,uL,List.getElem_map,List.getElem_range]) (fun rec => by unfold E3; rw [AG]; rfl),VY]
     cases (List.range q.1.toNat).any fun v => !H0 q.2.1 (v : Int) <;> rfl
theorem KA {α : Type} {l : List α} {f : α -> Bool} (h : A1 l (fun _ e => f e) = false) {a : α} (ha : a ∈ l) : f a = false:=by
 obtain ⟨k,hk,rfl⟩:=List.mem_iff_getElem.1 ha
 exact He h hk
theorem JR {q : Qry} (h : UH q = true) : 1 <= q.1 ∧ q.1 <= 5 ∧ q.2.1.length <= 4 ∧ ∀ a ∈ q.2.1,1 <= a.2.length ∧ a.2.length <= 5 ∧ ∀ v ∈ a.2,0 <= v ∧ v < q.1:=by
 unfold UH at h
 simp only [Bool.and_eq_true,Bool.not_eq_true'] at h
 obtain ⟨h1,h2,-,h4,-⟩:=h
 have e1 : 1 <= q.1 ∧ q.1 <= 5:=by unfold btw at h1; simpa using h1
 have e2 : 1 <= (q.2.1.length : Int) ∧ (q.2.1.length : Int) <= 4:=by unfold btw at h2; simpa using h2
 refine ⟨e1.1,e1.2,by omega,fun a ha => ?_⟩
 have h5:=KA h4 ha
 unfold Kn at h5
 simp only [Bool.or_eq_false_iff,Bool.not_eq_false'] at h5
 have e3 : 1 <= (a.2.length : Int) ∧ (a.2.length : Int) <= 5:=by have:=h5.2.1; unfold btw at this; simpa using this
 refine ⟨by omega,by omega,fun v hv => ?_⟩
 have h6:=KA h5.2.2 hv
 simp only [Bool.not_eq_false'] at h6
 rw [wrap_in (by omega)] at h6
 have : 0 <= v ∧ v <= q.1 - 1:=by unfold btw at h6; simpa using h6
 omega
end Go.Proofs.YtpcbnmcfplioeaaGreat
