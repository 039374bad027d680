/-
 SetRelation: the reference and the program give the same. On the printed functions; conditions: lengths.
-/
import Derived.Test.YtceghmdneadhbaaGreatSnWA1
-- pure
namespace Go.Proofs.YtceghmdneadhbaaGreat
open Go.RowKit
set_option linter.unusedVariables false
set_option linter.unusedSimpArgs false
def setSt (nm : List UInt8) (r : Int × List (List Int)) (s : List Tbl × Bool) (t : Tbl) : List Tbl × Bool :=
 let x := cond (!s.2 && !Op.bytesLess t.1 nm) (s.1 ++ [(nm,r)]) s.1
 (cond (!(t.1 == nm)) (x ++ [t]) x,s.2 || !Op.bytesLess t.1 nm)
def setS (d : List Tbl) (nm : List UInt8) (r : Int × List (List Int)) : List Tbl :=
 let s := d.foldl (setSt nm r) ([],false)
 cond (!s.2) (s.1 ++ [(nm,r)]) s.1
def setB (d : List Tbl) (nm : List UInt8) (r : Int × List (List Int)) : List Tbl × Bool := cond (!dbB d || !dbB (setS d nm r)) (d,false) (setS d nm r,true)
section
variable {d : List Tbl} {nm : List UInt8} {r : Int × List (List Int)}
theorem stp_len (s : List Tbl × Bool) (t : Tbl) : (setSt nm r s t).1.length <= s.1.length + 2 ∧ (s.2 = true -> (setSt nm r s t).1.length <= s.1.length + 1 ∧ (setSt nm r s t).2 = true) ∧ (s.2 = false -> (setSt nm r s t).2 = false -> (setSt nm r s t).1.length <= s.1.length + 1) := by
 obtain ⟨x,p⟩ := s
 simp only [setSt]
 cases p <;> cases Op.bytesLess t.1 nm <;> cases (t.1 == nm) <;> simp
theorem fold_len : ∀ (l : List Tbl) (s : List Tbl × Bool),(l.foldl (setSt nm r) s).1.length <= s.1.length + l.length + (cond (l.foldl (setSt nm r) s).2 1 0) - (cond s.2 1 0) ∧ (s.2 = true -> (l.foldl (setSt nm r) s).2 = true)
 | [],s => by simp only [List.foldl_nil,List.length_nil]; cases s.2 <;> simp
 | t :: l,s => by
  rw [List.foldl_cons,List.length_cons]
  obtain ⟨h1,h2⟩ := fold_len l (setSt nm r s t)
  obtain ⟨k1,k2,k3⟩ := stp_len (nm := nm) (r := r) s t
  cases hs : s.2 with
  | true =>
   obtain ⟨q1,q2⟩ := k2 hs
   rw [q2] at h1 h2
   rw [h2 rfl] at h1 ⊢
   simp only [cond_true] at h1 ⊢
   exact ⟨by omega,fun _ => (by first | rfl | trivial)⟩
  | false =>
   refine ⟨?_,fun h => by cases h⟩
   cases hp : (setSt nm r s t).2 with
   | true =>
    rw [hp] at h1 h2
    rw [h2 rfl] at h1 ⊢
    simp only [cond_true,cond_false] at h1 ⊢
    omega
   | false =>
    have := k3 hs hp
    rw [hp] at h1
    simp only [cond_false] at h1 ⊢
    omega
theorem setS_len (d : List Tbl) : (setS d nm r).length <= d.length + 1 := by
 obtain ⟨h1,_⟩ := fold_len (nm := nm) (r := r) d ([],false)
 simp only [setS]
 cases hp : (d.foldl (setSt nm r) ([],false)).2 with
 | true => rw [hp] at h1; simp only [cond_true,cond_false,List.length_nil,Bool.not_true] at h1 ⊢; omega
 | false => rw [hp] at h1; simp only [cond_true,cond_false,List.length_nil,Bool.not_false,List.length_append,List.length_singleton] at h1 ⊢; omega
theorem fold_mem : ∀ (l : List Tbl) (s : List Tbl × Bool),∀ t ∈ (l.foldl (setSt nm r) s).1,t ∈ s.1 ∨ t ∈ l ∨ t = (nm,r)
 | [],s,t,h => .inl h
 | u :: l,s,t,h => by
  rcases fold_mem l _ t h with h | h | h
  ·have : t ∈ s.1 ∨ t = u ∨ t = (nm,r) := by
    revert h
    simp only [setSt]
    cases s.2 <;> cases Op.bytesLess u.1 nm <;> cases (u.1 == nm) <;> simp <;> intro h <;> grind
   rcases this with h | h | h
   ·exact .inl h
   ·exact .inr (.inl (by rw [h]; exact List.mem_cons_self))
   ·exact .inr (.inr h)
  ·exact .inr (.inl (List.mem_cons_of_mem _ h))
  ·exact .inr (.inr h)
theorem setS_mem : ∀ t ∈ setS d nm r,t ∈ d ∨ t = (nm,r) := by
 intro t h
 simp only [setS] at h
 have key : ∀ t ∈ (d.foldl (setSt nm r) ([],false)).1,t ∈ d ∨ t = (nm,r) := fun t ht => by
  rcases fold_mem d _ t ht with h | h | h
  ·simp at h
  ·exact .inl h
  ·exact .inr h
 revert h
 cases (d.foldl (setSt nm r) ([],false)).2 with
 | true => exact key t
 | false =>
  intro h
  simp only [Bool.not_false,cond_true,List.mem_append,List.mem_singleton] at h
  rcases h with h | h
  ·exact key t h
  ·exact .inr h
theorem setS_sm (h : smDb d) (hd : d.length < lim) (hn : nm.length <= lim) (hr : smRows r.2) : smDb (setS d nm r) := by
 refine ⟨by have := setS_len (nm := nm) (r := r) d; omega,fun t ht => ?_⟩
 rcases setS_mem t ht with h1 | rfl
 ·exact h.2 t h1
 ·exact ⟨hn,hr⟩
end
def numsM {α : Type} (L : List (Nat × α ⊕ α)) : List Nat := L.filterMap fun q => match q with
 | .inl p => some p.1
 | .inr _ => none
theorem okJ_of {α : Type} [BEq α] [LawfulBEq α] {l : List α} : ∀ {L : List (Nat × α ⊕ α)} {seen : List Nat},(∀ p,.inl p ∈ L -> l[p.1]? = some p.2) -> (numsM L).Nodup -> (∀ n ∈ numsM L,n ∉ seen) -> okJ l L seen = true
 | [],_,_,_,_ => rfl
 | .inr x :: L,seen,h1,h2,h3 => by
  rw [okJ]
  exact okJ_of (fun p hp => h1 p (List.mem_cons_of_mem _ hp)) h2 h3
 | .inl p :: L,seen,h1,h2,h3 => by
  have e : numsM (.inl p :: L) = p.1 :: numsM L := by simp [numsM]
  rw [e] at h2 h3
  obtain ⟨n1,n2⟩ := List.nodup_cons.1 h2
  rw [okJ,h1 p List.mem_cons_self]
  simp only [beq_self_eq_true,Bool.true_and,Bool.and_eq_true,Bool.not_eq_true']
  refine ⟨?_,okJ_of (fun q hq => h1 q (List.mem_cons_of_mem _ hq)) n2 (fun n hn hm => ?_)⟩
  ·have := h3 p.1 List.mem_cons_self
   cases hc : seen.contains p.1 with
   | false => rfl
   | true => exact absurd (List.contains_iff_mem.1 hc) this
  ·rcases List.mem_cons.1 hm with h | h
   ·exact n1 (h ▸ hn)
   ·exact h3 n (List.mem_cons_of_mem _ hn) h
theorem enumT_get {α : Type} : ∀ (l : List α) (k i : Nat),(enumP k l)[i]? = (l[i]?).map fun x => (k + i,x)
 | [],k,i => by simp [enumP]
 | x :: l,k,0 => by simp [enumP]
 | x :: l,k,i + 1 => by
  rw [enumP,List.getElem?_cons_succ,List.getElem?_cons_succ,enumT_get l (k + 1) i]
  congr 1
  funext y
  congr 1
  omega
theorem enumT_mem {α : Type} {l : List α} {k : Nat} {p : Nat × α} (h : p ∈ enumP k l) : k <= p.1 ∧ l[p.1 - k]? = some p.2 := by
 obtain ⟨i,hi,he⟩ := List.getElem_of_mem h
 have h1 := List.getElem?_eq_getElem hi
 rw [enumT_get,he] at h1
 obtain ⟨x,hx,hp⟩ := Option.map_eq_some_iff.1 h1
 rw [<- hp]
 refine ⟨by simp,?_⟩
 simpa using hx
theorem enumT_nums {α : Type} : ∀ (l : List α) (k : Nat),numsM (inlM (enumP k l)) = List.range' k l.length
 | [],k => rfl
 | x :: l,k => by
  have := enumT_nums l (k + 1)
  simp only [inlM,numsM] at this ⊢
  rw [enumP,List.map_cons,List.filterMap_cons]
  simp only [this,List.length_cons,List.range'_succ]
theorem enumT_take {α : Type} : ∀ (l : List α) (k n : Nat),(enumP k l).take n = enumP k (l.take n)
 | [],k,n => by simp [enumP]
 | x :: l,k,0 => by simp [enumP]
 | x :: l,k,n + 1 => by rw [enumP,List.take_succ_cons,List.take_succ_cons,enumP,enumT_take l (k + 1) n]
theorem enumT_drop {α : Type} : ∀ (l : List α) (k n : Nat),(enumP k l).drop n = enumP (k + n) (l.drop n)
 | [],k,n => by simp [enumP]
 | x :: l,k,0 => by simp
 | x :: l,k,n + 1 => by rw [enumP,List.drop_succ_cons,List.drop_succ_cons,enumT_drop l (k + 1) n,show k + 1 + n = k + (n + 1) by omega]
theorem get_inl {α : Type} : ∀ (l : List α) (k : Nat),(inlM (enumP k l)).map getM = l
 | [],k => rfl
 | x :: l,k => by
  have := get_inl l (k + 1)
  simp only [inlM] at this ⊢
  rw [enumP,List.map_cons,List.map_cons,this]; rfl
theorem nums_app {α : Type} (a b : List (Nat × α ⊕ α)) : numsM (a ++ b) = numsM a ++ numsM b := by simp [numsM]
theorem nums_inr {α : Type} (a : List α) : numsM (inrM a) = [] := by
 induction a with
 | nil => rfl
 | cons x a ih => simp only [inrM,numsM] at ih ⊢; rw [List.map_cons,List.filterMap_cons]; exact ih
theorem okJ_put {α : Type} [BEq α] [LawfulBEq α] (l : List α) (n : Nat) (x : List α) : okJ l (inlM ((enumP 0 l).take n) ++ inrM x ++ inlM ((enumP 0 l).drop n)) [] = true ∧ (inlM ((enumP 0 l).take n) ++ inrM x ++ inlM ((enumP 0 l).drop n)).map getM = l.take n ++ x ++ l.drop n := by
 have hx : (inrM x).map getM = x := by
  induction x with
  | nil => rfl
  | cons y x ih => simp only [inrM] at ih ⊢; rw [List.map_cons,List.map_cons,ih]; rfl
 refine ⟨okJ_of (fun p hp => ?_) ?_ (by simp),?_⟩
 ·have : p ∈ enumP 0 l := by
   simp only [inlM,inrM,List.mem_append,List.mem_map,reduceCtorEq,and_false,exists_false,or_false,Sum.inl.injEq,exists_eq_right] at hp
   rcases hp with h | h
   ·exact List.mem_of_mem_take h
   ·exact List.mem_of_mem_drop h
  simpa using (enumT_mem this).2
 ·rw [nums_app,nums_app,nums_inr,List.append_nil,enumT_take,enumT_drop,enumT_nums,enumT_nums,Nat.zero_add]
  have : List.range' 0 (l.take n).length ++ List.range' n (l.drop n).length = List.range' 0 l.length := by
   rcases Nat.lt_or_ge n l.length with h | h
   ·rw [List.length_take,Nat.min_eq_left (by omega),List.length_drop]
    have := List.range'_append (s := 0) (m := n) (n := l.length - n) (step := 1)
    rw [show 0 + 1 * n = n by omega,show n + (l.length - n) = l.length by omega] at this
    exact this
   ·rw [List.take_of_length_le h,List.drop_of_length_le h]; simp
  rw [this]
  exact List.nodup_range'
 ·rw [List.map_append,List.map_append,hx,enumT_take,enumT_drop,get_inl,get_inl]
theorem s_setR {d : List Tbl} {nm : List UInt8} {r : Int × List (List Int)} (h : smDb d) (hd : d.length < lim) (hn : nm.length <= lim) (hr : smRows r.2) : spec_SetRelation d nm r = some (setB d nm r) := by
 unfold spec_SetRelation
 have hl := loop_to (body := spec_SetRelation_B1 d nm r) (out := d.foldl (setSt nm r) ([],false)) (fun k => (((d.take k).foldl (setSt nm r) ([],false)).1,((d.take k).foldl (setSt nm r) ([],false)).2,(k : Int))) d.length (fun k hk rec => by
  have hlen := (fold_len (nm := nm) (r := r) (d.take k) ([],false)).1
  rw [List.take_succ_eq_append_getElem hk,List.foldl_append]
  simp only [List.foldl_cons,List.foldl_nil]
  generalize (d.take k).foldl (setSt nm r) ([],false) = s at hlen ⊢
  obtain ⟨x,p⟩ := s
  have hx : x.length <= k + (cond p 1 0) := by simpa [List.length_take,Nat.min_eq_left (Nat.le_of_lt hk)] using hlen
  have h2 : cond p 1 0 <= 1 := by cases p <;> simp
  simp only [spec_SetRelation_B1]
  rw [lt_dec hk,geti_at hk]
  simp only [cond_true,obind,spec_SetRelation_J2,spec_SetRelation_J3,spec_SetRelation_J4,wrap_s hk (lim_max h.1),setSt]
  cases p <;> cases hb : Op.bytesLess d[k].1 nm <;> cases he : (d[k].1 == nm) <;> simp only [Bool.not_true,Bool.not_false,cond_true,cond_false,Bool.and_self,Bool.and_true,Bool.and_false,Bool.true_and,Bool.false_and,Bool.or_true,Bool.or_false,Bool.true_or,Bool.false_or] at hx ⊢ <;>
   (try rw [chk_pos (by simp only [List.length_append,List.length_singleton]; omega)]) <;> (try rw [chk_pos (by simp only [List.length_append,List.length_singleton]; omega)])) (fun rec => by
  simp only [spec_SetRelation_B1,List.take_length]
  rw [nlt_dec]; rfl) fz (lt_fz h.1)
 simp only [List.take_zero,List.foldl_nil,Int.natCast_zero] at hl
 rw [hl]
 have hS := setS_sm (nm := nm) (r := r) h hd hn hr
 have hlen := (fold_len (nm := nm) (r := r) d ([],false)).1
 simp only [obind]
 have hfin : ∀ x,x = setS d nm r -> spec_SetRelation_J5 d x = some (setB d nm r) := by
  intro x hx
  subst hx
  simp only [spec_SetRelation_J5,spec_SetRelation_J6,s_db h,s_db hS,obind,s_copyD h,s_copyD hS,setB]
  cases dbB d <;> cases dbB (setS d nm r) <;> rfl
 generalize hs : d.foldl (setSt nm r) ([],false) = s at hlen
 obtain ⟨x,p⟩ := s
 cases p with
 | true =>
  simp only [Bool.not_true,cond_false]
  exact hfin x (by simp [setS,hs])
 | false =>
  simp only [Bool.not_false,cond_true]
  rw [chk_pos (by simp only [List.length_singleton]; simp at hlen; omega)]
  exact hfin _ (by simp [setS,hs])
theorem setB_sm {d : List Tbl} {nm : List UInt8} {r : Int × List (List Int)} (h : smDb d) (hd : d.length < lim) (hn : nm.length <= lim) (hr : smRows r.2) : smDb (setB d nm r).1 := by
 unfold setB
 cases (!dbB d || !dbB (setS d nm r)) with
 | true => exact h
 | false => exact setS_sm h hd hn hr
theorem setB_ok {d : List Tbl} {nm : List UInt8} {r : Int × List (List Int)} (h : (setB d nm r).2 = true) : dbB d = true ∧ dbB (setB d nm r).1 = true ∧ (setB d nm r).1 = setS d nm r := by
 unfold setB at *
 cases h1 : dbB d with
 | false => simp [h1] at h
 | true =>
  cases h2 : dbB (setS d nm r) with
  | false => simp [h1,h2] at h
  | true => simp [h1,h2]
end Go.Proofs.YtceghmdneadhbaaGreat
