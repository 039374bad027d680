/-
 SetRelation: the reference and the program give the same. On the printed functions; conditions: lengths.
-/
import Derived.Test.YtpcbnmcfplioeaaGreatSnNC1
namespace Go.Proofs.YtpcbnmcfplioeaaGreat
open Go.RowKit
set_option linter.unusedVariables false
set_option linter.unusedSimpArgs false
theorem bi : ∀ s : List UInt8,Op.bytesLess s s = false
 | [] => rfl
 | x :: s => by simp [Op.bytesLess,bi s]
theorem U2 : ∀ {a b c : List UInt8},Op.bytesLess a b = true -> Op.bytesLess b c = true -> Op.bytesLess a c = true
 | [],[],_,h,_ => by simp [Op.bytesLess] at h
 | [],_ :: _,[],_,h => by simp [Op.bytesLess] at h
 | [],_ :: _,_ :: _,_,_ => by simp [Op.bytesLess]
 | _ :: _,[],_,h,_ => by simp [Op.bytesLess] at h
 | _ :: _,_ :: _,[],_,h => by simp [Op.bytesLess] at h
 | x :: a,y :: b,z :: c,h,k => by
  simp only [Op.bytesLess,Bool.or_eq_true,decide_eq_true_eq,Bool.and_eq_true,beq_iff_eq] at h k ⊢
  rcases h with h | ⟨rfl,h⟩
  ·rcases k with k | ⟨rfl,k⟩
   ·exact .inl (UInt8.lt_trans h k)
   ·exact .inl h
  ·rcases k with k | ⟨rfl,k⟩
   ·exact .inl k
   ·exact .inr ⟨rfl,U2 h k⟩
theorem fY {d : List Tbl} (h : dbB d = true) : d.Pairwise fun a b => Op.bytesLess a.1 b.1 = true:=by
 have hs : ∀ k (hk : k + 1 < d.length),Op.bytesLess (d[k]'(by omega)).1 d[k + 1].1 = true:=by
  intro k hk
  simp only [dbB,Bool.and_eq_true,Bool.not_eq_true',A1,List.any_eq_false,List.mem_range] at h
  have:=h.2 (k + 1) hk
  rw [AY hk] at this
  simp only [Ma,Bool.not_eq_true,Bool.or_eq_false_iff,Bool.and_eq_false_iff] at this
  have h1:=this.1.1.1.2
  rcases h1 with h1 | h1
  ·simp at h1
  ·rw [show k + 1 - 1 = k by omega,AY (by omega)] at h1
   simpa using h1
 rw [List.pairwise_iff_getElem]
 intro i j hi hj hij
 induction j with
 | zero => omega
 | succ j ih =>
  rcases Nat.lt_or_ge i j with h1 | h1
  ·exact U2 (ih (by omega) h1) (hs j hj)
  ·have : i = j:=by omega
   subst this
   exact hs i hj
def setSt (nm : List UInt8) (r : Int × List (List Int)) (s : List Tbl × Bool) (t : Tbl) : List Tbl × Bool :=
 let x:=cond (!s.2 && !Op.bytesLess t.1 nm) (s.1 ++ [(nm,r)]) s.1
 (cond (!(t.1 == nm)) (x ++ [t]) x,s.2 || !Op.bytesLess t.1 nm)
def SQ (d : List Tbl) (nm : List UInt8) (r : Int × List (List Int)) : List Tbl :=
 let s:=d.foldl (setSt nm r) ([],false)
 cond (!s.2) (s.1 ++ [(nm,r)]) s.1
def setB (d : List Tbl) (nm : List UInt8) (r : Int × List (List Int)) : List Tbl × Bool:=cond (!dbB d || !dbB (SQ d nm r)) (d,false) (SQ d nm r,true)
section
variable {d : List Tbl} {nm : List UInt8} {r : Int × List (List Int)}
theorem eS (s : List Tbl × Bool) (t : Tbl) : (setSt nm r s t).1.length <= s.1.length + 2 ∧ (s.2 = true -> (setSt nm r s t).1.length <= s.1.length + 1 ∧ (setSt nm r s t).2 = true) ∧ (s.2 = false -> (setSt nm r s t).2 = false -> (setSt nm r s t).1.length <= s.1.length + 1):=by
 obtain ⟨x,p⟩:=s
 simp only [setSt]
 cases p <;> cases Op.bytesLess t.1 nm <;> cases (t.1 == nm) <;> simp
theorem Pc : ∀ (l : List Tbl) (s : List Tbl × Bool),(l.foldl (setSt nm r) s).1.length <= s.1.length + l.length + (cond (l.foldl (setSt nm r) s).2 1 0) - (cond s.2 1 0) ∧ (s.2 = true -> (l.foldl (setSt nm r) s).2 = true)
 | [],s => by simp only [List.foldl_nil,List.length_nil]; cases s.2 <;> simp
 | t :: l,s => by
  rw [List.foldl_cons,List.length_cons]
  obtain ⟨h1,h2⟩:=Pc l (setSt nm r s t)
  obtain ⟨k1,k2,k3⟩:=eS (nm:=nm) (r:=r) s t
  cases hs : s.2 with
  | true =>
   obtain ⟨q1,q2⟩:=k2 hs
   rw [q2] at h1 h2
   rw [h2 rfl] at h1 ⊢
   simp only [cond_true] at h1 ⊢
   exact ⟨by omega,fun _ => (by first | rfl | trivial)⟩
  | false =>
   refine ⟨?_,fun h => by cases h⟩
   cases hp : (setSt nm r s t).2 with
   | true =>
    rw [hp] at h1 h2
    rw [h2 rfl] at h1 ⊢
    simp only [cond_true,cond_false] at h1 ⊢
    omega
   | false =>
    have:=k3 hs hp
    rw [hp] at h1
    simp only [cond_false] at h1 ⊢
    omega
theorem aE (d : List Tbl) : (SQ d nm r).length <= d.length + 1:=by
 obtain ⟨h1,_⟩:=Pc (nm:=nm) (r:=r) d ([],false)
 simp only [SQ]
 cases hp : (d.foldl (setSt nm r) ([],false)).2 with
 | true => rw [hp] at h1; simp only [cond_true,cond_false,List.length_nil,Bool.not_true] at h1 ⊢; omega
 | false => rw [hp] at h1; simp only [cond_true,cond_false,List.length_nil,Bool.not_false,List.length_append,List.length_singleton] at h1 ⊢; omega
theorem Vc : ∀ (l : List Tbl) (s : List Tbl × Bool),∀ t ∈ (l.foldl (setSt nm r) s).1,t ∈ s.1 ∨ t ∈ l ∨ t = (nm,r)
 | [],s,t,h => .inl h
 | u :: l,s,t,h => by
  rcases Vc l _ t h with h | h | h
  ·have : t ∈ s.1 ∨ t = u ∨ t = (nm,r):=by
    revert h
    simp only [setSt]
    cases s.2 <;> cases Op.bytesLess u.1 nm <;> cases (u.1 == nm) <;> simp <;> intro h <;> grind
   rcases this with h | h | h
   ·exact .inl h
   ·exact .inr (.inl (by rw [h]; exact List.mem_cons_self))
   ·exact .inr (.inr h)
  ·exact .inr (.inl (List.mem_cons_of_mem _ h))
  ·exact .inr (.inr h)
theorem aF : ∀ t ∈ SQ d nm r,t ∈ d ∨ t = (nm,r):=by
 intro t h
 simp only [SQ] at h
 have key : ∀ t ∈ (d.foldl (setSt nm r) ([],false)).1,t ∈ d ∨ t = (nm,r):=fun t ht => by
  rcases Vc d _ t ht with h | h | h
  ·simp at h
  ·exact .inl h
  ·exact .inr h
 revert h
 cases (d.foldl (setSt nm r) ([],false)).2 with
 | true => exact key t
 | false =>
  intro h
  simp only [Bool.not_false,cond_true,List.mem_append,List.mem_singleton] at h
  rcases h with h | h
  ·exact key t h
  ·exact .inr h
theorem UK (h : KU d) (hd : d.length < lim) (hn : nm.length <= lim) (hr : Bl r.2) : KU (SQ d nm r):=by
 refine ⟨by have:=aE (nm:=nm) (r:=r) d; omega,fun t ht => ?_⟩
 rcases aF t ht with h1 | rfl
 ·exact h.2 t h1
 ·exact ⟨hn,hr⟩
theorem Vb : ∀ (l : List Tbl) (x : List Tbl),(∀ t ∈ l,Op.bytesLess t.1 nm = true) -> l.foldl (setSt nm r) (x,false) = (x ++ l,false)
 | [],x,_ => by simp
 | t :: l,x,h => by
  have h1:=h t List.mem_cons_self
  have h2 : (t.1 == nm) = false:=by
   cases e : (t.1 == nm) with
   | false => rfl
   | true => rw [eq_of_beq e,bi] at h1; cases h1
  rw [List.foldl_cons]
  have : setSt nm r (x,false) t = (x ++ [t],false):=by simp [setSt,h1,h2]
  rw [this,Vb l _ (fun u hu => h u (List.mem_cons_of_mem _ hu))]
  simp
theorem P1 : ∀ (l : List Tbl) (x : List Tbl),(∀ t ∈ l,(t.1 == nm) = false) -> l.foldl (setSt nm r) (x,true) = (x ++ l,true)
 | [],x,_ => by simp
 | t :: l,x,h => by
  rw [List.foldl_cons]
  have : setSt nm r (x,true) t = (x ++ [t],true):=by simp [setSt,h t List.mem_cons_self]
  rw [this,P1 l _ (fun u hu => h u (List.mem_cons_of_mem _ hu))]
  simp
def Jf (d : List Tbl) (nm : List UInt8) : Nat:=(d.takeWhile fun t => Op.bytesLess t.1 nm).length
theorem Qh (d : List Tbl) (nm : List UInt8) : d.takeWhile (fun t => Op.bytesLess t.1 nm) = d.take (Jf d nm) ∧ d.dropWhile (fun t => Op.bytesLess t.1 nm) = d.drop (Jf d nm):=by
 have h:=List.takeWhile_append_dropWhile (p:=fun t : Tbl => Op.bytesLess t.1 nm) (l:=d)
 unfold Jf
 generalize d.takeWhile (fun t => Op.bytesLess t.1 nm) = a at *
 generalize d.dropWhile (fun t => Op.bytesLess t.1 nm) = b at *
 subst h
 simp
theorem dw {d : List Tbl} {nm : List UInt8} (h : Jf d nm < d.length) : Op.bytesLess d[Jf d nm].1 nm = false:=by
 obtain ⟨e1,e2⟩:=Qh d nm
 generalize hx : d[Jf d nm] = t
 have h3 : d.dropWhile (fun t => Op.bytesLess t.1 nm) = t :: d.drop (Jf d nm + 1):=by rw [e2,List.drop_eq_getElem_cons h,hx]
 cases hb : Op.bytesLess t.1 nm with
 | false => rfl
 | true =>
  have h4:=List.head_dropWhile_not (p:=fun t : Tbl => Op.bytesLess t.1 nm) (l:=d) (by rw [h3]; simp)
  simp only [h3,List.head_cons,hb] at h4
  cases h4
def lz (d : List Tbl) (nm : List UInt8) (r : Int × List (List Int)) : List Tbl :=
 cond (atB d (Jf d nm) fun t => t.1 == nm) (d.set (Jf d nm) (nm,r)) (d.take (Jf d nm) ++ [(nm,r)] ++ d.drop (Jf d nm))
theorem VJ (h : dbB d = true) : SQ d nm r = lz d nm r:=by
 have hasc:=fY h
 obtain ⟨e1,e2⟩:=Qh d nm
 have hlow : ∀ t ∈ d.take (Jf d nm),Op.bytesLess t.1 nm = true:=by
  rw [<- e1]
  intro t ht
  exact (List.all_eq_true.1 (List.all_takeWhile (p:=fun t : Tbl => Op.bytesLess t.1 nm) (l:=d))) t ht
 have hd : d = d.take (Jf d nm) ++ d.drop (Jf d nm):=(List.take_append_drop _ _).symm
 have hfold : d.foldl (setSt nm r) ([],false) = (d.drop (Jf d nm)).foldl (setSt nm r) (d.take (Jf d nm),false):=by
  conv => lhs; rw [hd,List.foldl_append,Vb _ _ hlow,List.nil_append]
 unfold SQ lz
 rw [hfold]
 cases hD : d.drop (Jf d nm) with
 | nil =>
  have hlen : d.length <= Jf d nm:=by simpa using hD
  have : atB d (Jf d nm) (fun t => t.1 == nm) = false:=by unfold atB; rw [List.getElem?_eq_none hlen]
  rw [this]
  simp
 | cons t D =>
  have hlt : Jf d nm < d.length:=by
   rcases Nat.lt_or_ge (Jf d nm) d.length with h | h
   ·exact h
   ·rw [List.drop_of_length_le h] at hD; cases hD
  have ht : d[Jf d nm] = t:=by
   have:=List.drop_eq_getElem_cons hlt
   rw [hD] at this
   injection this with h1 h2
   exact h1.symm
  have hdrop : d.drop (Jf d nm + 1) = D:=by
   have:=List.drop_eq_getElem_cons hlt
   rw [hD] at this
   injection this with h1 h2
   exact h2.symm
  have hnl : Op.bytesLess t.1 nm = false:=by
   have h3 : d.dropWhile (fun t => Op.bytesLess t.1 nm) = t :: D:=by rw [e2,hD]
   cases hb : Op.bytesLess t.1 nm with
   | false => rfl
   | true =>
    exfalso
    have h4:=List.head_dropWhile_not (p:=fun t : Tbl => Op.bytesLess t.1 nm) (l:=d) (by rw [h3]; simp)
    simp only [h3,List.head_cons,hb] at h4
    cases h4
  have hhigh : ∀ u ∈ D,(u.1 == nm) = false:=by
   intro u hu
   rw [hd,hD] at hasc
   have h5:=(List.pairwise_cons.1 (List.pairwise_append.1 hasc).2.1).1 u hu
   cases e : (u.1 == nm) with
   | false => rfl
   | true => rw [eq_of_beq e,hnl] at h5; cases h5
  rw [AY hlt,ht,List.foldl_cons]
  cases e : (t.1 == nm) with
  | true =>
   have : setSt nm r (d.take (Jf d nm),false) t = (d.take (Jf d nm) ++ [(nm,r)],true):=by simp [setSt,hnl,e]
   rw [this,P1 _ _ hhigh]
   simp only [Bool.not_true,cond_false,cond_true]
   rw [List.set_eq_take_append_cons_drop,if_pos hlt,hdrop]
   simp
  | false =>
   have : setSt nm r (d.take (Jf d nm),false) t = (d.take (Jf d nm) ++ [(nm,r)] ++ [t],true):=by simp [setSt,hnl,e]
   rw [this,P1 _ _ hhigh]
   simp
end
def Ou {α : Type} (L : List (Nat × α ⊕ α)) : List Nat:=L.filterMap fun q => match q with
 | .inl p => some p.1
 | .inr _ => none
theorem Ya {α : Type} [BEq α] [LawfulBEq α] {l : List α} : ∀ {L : List (Nat × α ⊕ α)} {seen : List Nat},(∀ p,.inl p ∈ L -> l[p.1]? = some p.2) -> (Ou L).Nodup -> (∀ n ∈ Ou L,n ∉ seen) -> okJ l L seen = true
 | [],_,_,_,_ => rfl
 | .inr x :: L,seen,h1,h2,h3 => by
  rw [okJ]
  exact Ya (fun p hp => h1 p (List.mem_cons_of_mem _ hp)) h2 h3
 | .inl p :: L,seen,h1,h2,h3 => by
  have e : Ou (.inl p :: L) = p.1 :: Ou L:=by simp [Ou]
  rw [e] at h2 h3
  obtain ⟨n1,n2⟩:=List.nodup_cons.1 h2
  rw [okJ,h1 p List.mem_cons_self]
  simp only [beq_self_eq_true,Bool.true_and,Bool.and_eq_true,Bool.not_eq_true']
  refine ⟨?_,Ya (fun q hq => h1 q (List.mem_cons_of_mem _ hq)) n2 (fun n hn hm => ?_)⟩
  ·have:=h3 p.1 List.mem_cons_self
   cases hc : seen.contains p.1 with
   | false => rfl
   | true => exact absurd (List.contains_iff_mem.1 hc) this
  ·rcases List.mem_cons.1 hm with h | h
   ·exact n1 (h ▸ hn)
   ·exact h3 n (List.mem_cons_of_mem _ hn) h
theorem Nm {α : Type} : ∀ (l : List α) (k i : Nat),(AC k l)[i]? = (l[i]?).map fun x => (k + i,x)
 | [],k,i => by simp [AC]
 | x :: l,k,0 => by simp [AC]
 | x :: l,k,i + 1 => by
  rw [AC,List.getElem?_cons_succ,List.getElem?_cons_succ,Nm l (k + 1) i]
  congr 1
  funext y
  congr 1
  omega
theorem Xj {α : Type} {l : List α} {k : Nat} {p : Nat × α} (h : p ∈ AC k l) : k <= p.1 ∧ l[p.1 - k]? = some p.2:=by
 obtain ⟨i,hi,he⟩:=List.getElem_of_mem h
 have h1:=List.getElem?_eq_getElem hi
 rw [Nm,he] at h1
 obtain ⟨x,hx,hp⟩:=Option.map_eq_some_iff.1 h1
 rw [<- hp]
 refine ⟨by simp,?_⟩
 simpa using hx
theorem N3 {α : Type} : ∀ (l : List α) (k : Nat),Ou (H4 (AC k l)) = List.range' k l.length
 | [],k => rfl
 | x :: l,k => by
  have:=N3 l (k + 1)
  simp only [H4,Ou] at this ⊢
  rw [AC,List.map_cons,List.filterMap_cons]
  simp only [this,List.length_cons,List.range'_succ]
theorem N4 {α : Type} : ∀ (l : List α) (k n : Nat),(AC k l).take n = AC k (l.take n)
 | [],k,n => by simp [AC]
 | x :: l,k,0 => by simp [AC]
 | x :: l,k,n + 1 => by rw [AC,List.take_succ_cons,List.take_succ_cons,AC,N4 l (k + 1) n]
theorem N2 {α : Type} : ∀ (l : List α) (k n : Nat),(AC k l).drop n = AC (k + n) (l.drop n)
 | [],k,n => by simp [AC]
 | x :: l,k,0 => by simp
 | x :: l,k,n + 1 => by rw [AC,List.drop_succ_cons,List.drop_succ_cons,N2 l (k + 1) n,show k + 1 + n = k + (n + 1) by omega]
theorem Uk {α : Type} : ∀ (l : List α) (k : Nat),(H4 (AC k l)).map getM = l
 | [],k => rfl
 | x :: l,k => by
  have:=Uk l (k + 1)
  simp only [H4] at this ⊢
  rw [AC,List.map_cons,List.map_cons,this]; rfl
theorem Vx {α : Type} (a b : List (Nat × α ⊕ α)) : Ou (a ++ b) = Ou a ++ Ou b:=by simp [Ou]
theorem ah {α : Type} (a : List α) : Ou (Pe a) = []:=by
 induction a with
 | nil => rfl
 | cons x a ih => simp only [Pe,Ou] at ih ⊢; rw [List.map_cons,List.filterMap_cons]; exact ih
theorem Yb {α : Type} [BEq α] [LawfulBEq α] (l : List α) (n : Nat) (x : List α) : okJ l (H4 ((AC 0 l).take n) ++ Pe x ++ H4 ((AC 0 l).drop n)) [] = true ∧ (H4 ((AC 0 l).take n) ++ Pe x ++ H4 ((AC 0 l).drop n)).map getM = l.take n ++ x ++ l.drop n:=by
 have hx : (Pe x).map getM = x:=by
  induction x with
  | nil => rfl
  | cons y x ih => simp only [Pe] at ih ⊢; rw [List.map_cons,List.map_cons,ih]; rfl
 refine ⟨Ya (fun p hp => ?_) ?_ (by simp),?_⟩
 ·have : p ∈ AC 0 l:=by
   simp only [H4,Pe,List.mem_append,List.mem_map,reduceCtorEq,and_false,exists_false,or_false,Sum.inl.injEq,exists_eq_right] at hp
   rcases hp with h | h
   ·exact List.mem_of_mem_take h
   ·exact List.mem_of_mem_drop h
  simpa using (Xj this).2
 ·rw [Vx,Vx,ah,List.append_nil,N4,N2,N3,N3,Nat.zero_add]
  have : List.range' 0 (l.take n).length ++ List.range' n (l.drop n).length = List.range' 0 l.length:=by
   rcases Nat.lt_or_ge n l.length with h | h
   ·rw [List.length_take,Nat.min_eq_left (by omega),List.length_drop]
    have:=List.range'_append (s:=0) (m:=n) (n:=l.length - n) (step:=1)
    rw [show 0 + 1 * n = n by omega,show n + (l.length - n) = l.length by omega] at this
    exact this
   ·rw [List.take_of_length_le h,List.drop_of_length_le h]; simp
  rw [this]
  exact List.nodup_range'
 ·rw [List.map_append,List.map_append,hx,N4,N2,Uk,Uk]
theorem kE {d : List Tbl} {nm : List UInt8} {r : Int × List (List Int)} (h : KU d) (hd : d.length < lim) (hn : nm.length <= lim) (hr : Bl r.2) : FX d nm r = some (setB d nm r):=by
 unfold FX
 have hl:=DN (body:=BG d nm r) (out:=d.foldl (setSt nm r) ([],false)) (fun k => (((d.take k).foldl (setSt nm r) ([],false)).1,((d.take k).foldl (setSt nm r) ([],false)).2,(k : Int))) d.length (fun k hk rec => by
  have hlen:=(Pc (nm:=nm) (r:=r) (d.take k) ([],false)).1
  rw [List.take_succ_eq_append_getElem hk,List.foldl_append]
  simp only [List.foldl_cons,List.foldl_nil]
  generalize (d.take k).foldl (setSt nm r) ([],false) = s at hlen ⊢
  obtain ⟨x,p⟩:=s
  have hx : x.length <= k + (cond p 1 0):=by simpa [List.length_take,Nat.min_eq_left (Nat.le_of_lt hk)] using hlen
  have h2 : cond p 1 0 <= 1:=by cases p <;> simp
  simp only [BG]
  rw [AL hk,Am hk]
  simp only [cond_true,Ad,Ed,Ee,Ef,AS hk (AA h.1),setSt]
  cases p <;> cases hb : Op.bytesLess d[k].1 nm <;> cases he : (d[k].1 == nm) <;> simp only [Bool.not_true,Bool.not_false,cond_true,cond_false,Bool.and_self,Bool.and_true,Bool.and_false,Bool.true_and,Bool.false_and,Bool.or_true,Bool.or_false,Bool.true_or,Bool.false_or] at hx ⊢ <;>
   (try rw [Ap (by simp only [List.length_append,List.length_singleton]; omega)]) <;> (try rw [Ap (by simp only [List.length_append,List.length_singleton]; omega)])) (fun rec => by
  simp only [BG,List.take_length]
  rw [AG]; rfl) fz (HP h.1)
 simp only [List.take_zero,List.foldl_nil,Int.natCast_zero] at hl
 rw [hl]
 have hS:=UK (nm:=nm) (r:=r) h hd hn hr
 have hlen:=(Pc (nm:=nm) (r:=r) d ([],false)).1
 simp only [Ad]
 have hfin : ∀ x,x = SQ d nm r -> C0 d x = some (setB d nm r):=by
  intro x hx
  subst hx
  simp only [C0,Eg,eG h,eG hS,Ad,Sn h,Sn hS,setB]
  cases dbB d <;> cases dbB (SQ d nm r) <;> rfl
 generalize hs : d.foldl (setSt nm r) ([],false) = s at hlen
 obtain ⟨x,p⟩:=s
 cases p with
 | true =>
  simp only [Bool.not_true,cond_false]
  exact hfin x (by simp [SQ,hs])
 | false =>
  simp only [Bool.not_false,cond_true]
  rw [Ap (by simp only [List.length_singleton]; simp at hlen; omega)]
  exact hfin _ (by simp [SQ,hs])
theorem mG {d : List Tbl} (h : d.length <= lim) (nm : List UInt8) : Ao (CO nm d) fz 0 = some ((Jf d nm : Nat) : Int):=by
 have hle : Jf d nm <= d.length:=by
  unfold Jf; exact (List.takeWhile_prefix _).length_le
 obtain ⟨e1,e2⟩:=Qh d nm
 refine DN (body:=CO nm d) (out:=((Jf d nm : Nat) : Int)) (fun k => (k : Int)) (Jf d nm) (fun k hk rec => ?_) (fun rec => ?_) fz (HP (by omega))
 ·have hkd : k < d.length:=by omega
  have hp : Op.bytesLess d[k].1 nm = true:=by
   have hm : d[k] ∈ d.takeWhile (fun t => Op.bytesLess t.1 nm):=by
    rw [e1,List.mem_take_iff_getElem]
    exact ⟨k,by omega,rfl⟩
   exact (List.all_eq_true.1 (List.all_takeWhile (p:=fun t : Tbl => Op.bytesLess t.1 nm) (l:=d))) _ hm
  simp only [CO]
  rw [AL hkd,Am hkd]
  simp only [cond_true,Ad,hp,AS hkd (AA h)]
 ·simp only [CO]
  rcases Nat.lt_or_ge (Jf d nm) d.length with hlt | hge
  ·rw [AL hlt,Am hlt]
   have hnl:=dw hlt
   simp only [cond_true,Ad,hnl,cond_false]
  ·rw [decide_eq_false (by omega)]; rfl
theorem gV {d : List Tbl} {nm : List UInt8} {r : Int × List (List Int)} (h : KU d) (hd : d.length < lim) (hn : nm.length <= lim) (hr : Bl r.2) : FSQ d nm r = some (setB d nm r):=by
 unfold FSQ
 simp only [gI h,Ad]
 cases hv : dbB d with
 | false => simp only [Bool.not_false,cond_true,P4 h,setB,hv,Bool.true_or]
 | true =>
  have hS:=UK (nm:=nm) (r:=r) h hd hn hr
  have hle : Jf d nm <= d.length:=by
   unfold Jf; exact (List.takeWhile_prefix _).length_le
  simp only [Bool.not_true,cond_false,P4 h,mG h.1,XE hr]
  have hfin : ∀ x,x = SQ d nm r -> CQ d x = some (setB d nm r):=by
   intro x hx
   subst hx
   simp only [CQ,gI hS,Ad,P4 h,setB,hv]
   cases dbB (SQ d nm r) <;> rfl
  have hne : ∀ b,b = (atB d (Jf d nm) fun t => t.1 == nm) -> CP d nm d (Jf d nm : Nat) r b = some (setB d nm r):=by
   intro b hb
   unfold CP
   cases b with
   | true =>
    have hlt : Jf d nm < d.length:=by
     rcases Nat.lt_or_ge (Jf d nm) d.length with h1 | h1
     ·exact h1
     ·unfold atB at hb; rw [List.getElem?_eq_none h1] at hb; cases hb
    simp only [cond_true]
    rw [Ap (by omega),Am hlt]
    simp only [Ad]
    refine hfin _ ?_
    rw [VJ hv]
    unfold lz Jr
    rw [<- hb,Int.toNat_natCast]; rfl
   | false =>
    have hE : (AC 0 d).length = d.length:=Ix 0 d
    simp only [cond_false,List.nil_append]
    have t1 : Ey (AC 0 d) 0 (Jf d nm : Nat) = (AC 0 d).take (Jf d nm):=by simp [Ey]
    have t2 : Ey (AC 0 d) (Jf d nm : Nat) (((AC 0 d).length : Nat) : Int) = (AC 0 d).drop (Jf d nm):=by simp [Ey]
    obtain ⟨ok,gm⟩:=Yb d (Jf d nm) [(nm,r)]
    have hlt : (List.take (Jf d nm) (AC 0 d)).length = Jf d nm:=by rw [List.length_take,hE]; omega
    have hld : (List.drop (Jf d nm) (AC 0 d)).length = d.length - Jf d nm:=by rw [List.length_drop,hE]
    rw [t1,t2,hE]
    rw [Ap (by omega),Ap (by rw [hlt,List.length_nil]; have:=h.1; omega),Ap (by rw [<- Qc,<- Wt,hlt,List.length_singleton]; omega),Ap (by omega),
     Ap (by rw [List.length_append,<- Qc,<- Qc,<- Wt,hlt,hld,List.length_singleton]; omega),Ap ok,gm]
    refine hfin _ ?_
    rw [VJ hv]
    unfold lz
    rw [<- hb]; rfl
  rcases Nat.lt_or_ge (Jf d nm) d.length with hlt | hge
  ·rw [AL hlt,Am hlt]
   simp only [cond_true]
   exact hne _ (by rw [AY hlt])
  ·rw [decide_eq_false (by omega)]
   exact hne false (by unfold atB; rw [List.getElem?_eq_none hge])
theorem eN {d : List Tbl} {nm : List UInt8} {r : Int × List (List Int)} (h : KU d) (hd : d.length < lim) (hn : nm.length <= lim) (hr : Bl r.2) : KU (setB d nm r).1:=by
 unfold setB
 cases (!dbB d || !dbB (SQ d nm r)) with
 | true => exact h
 | false => exact UK h hd hn hr
theorem eM {d : List Tbl} {nm : List UInt8} {r : Int × List (List Int)} (h : (setB d nm r).2 = true) : dbB d = true ∧ dbB (setB d nm r).1 = true ∧ (setB d nm r).1 = SQ d nm r:=by
 unfold setB at *
 cases h1 : dbB d with
 | false => simp [h1] at h
 | true =>
  cases h2 : dbB (SQ d nm r) with
  | false => simp [h1,h2] at h
  | true => simp [h1,h2]
end Go.Proofs.YtpcbnmcfplioeaaGreat
