/-
 Sorted rows, each once: the reference and the program agree. On the printed functions; conditions: lengths.
-/
import Derived.Test.YtkclaipnejgloaaGreatDoorFdIF1
namespace Go.Proofs.YtkclaipnejgloaaGreatDoor
open Go.RowKit
set_option linter.unusedSimpArgs false
set_option linter.unusedVariables false
abbrev Row:=List Int
theorem Py : ∀ a : Row,F8 a a = 0
 | [] => rfl
 | x :: a => by rw [F8,if_neg (by omega),if_neg (by omega)]; exact Py a
theorem LA : ∀ {a b : Row},F8 a b = 0 -> a = b
 | [],[],_ => rfl
 | [],_ :: _,h => by simp [F8] at h
 | _ :: _,[],h => by simp [F8] at h
 | x :: a,y :: b,h => by
  rw [F8] at h
  split at h
  ·simp at h
  ·split at h
   ·simp at h
   ·have : x = y:=by omega
    rw [this,LA h]
theorem cmp_neg : ∀ a b : Row,F8 b a = - F8 a b
 | [],[] => rfl
 | [],_ :: _ => rfl
 | _ :: _,[] => rfl
 | x :: a,y :: b => by
  rw [F8,F8]
  by_cases h1 : x < y
  ·rw [if_neg (by omega),if_pos h1,if_pos h1]; rfl
  ·rw [if_neg h1]
   by_cases h2 : y < x
   ·rw [if_pos h2,if_pos h2,if_neg h1]
   ·rw [if_neg h2,if_neg h2,if_neg h1]; exact cmp_neg a b
theorem IF : ∀ {a b c : Row},F8 a b < 0 -> F8 b c < 0 -> F8 a c < 0
 | [],[],_,h,_ => by simp [F8] at h
 | [],_ :: _,[],_,h => by simp [F8] at h
 | [],_ :: _,_ :: _,_,_ => by simp [F8]
 | _ :: _,[],_,h,_ => by simp [F8] at h
 | _ :: _,_ :: _,[],_,h => by simp [F8] at h
 | x :: a,y :: b,z :: c,h1,h2 => by
  rw [F8] at h1 h2 ⊢
  by_cases e1 : x < y
  ·by_cases e2 : y < z
   ·rw [if_pos (by omega)]; simp
   ·rw [if_neg e2] at h2
    by_cases e3 : z < y
    ·rw [if_pos e3] at h2; simp at h2
    ·rw [if_pos (by omega)]; simp
  ·rw [if_neg e1] at h1
   by_cases e3 : y < x
   ·rw [if_pos e3] at h1; simp at h1
   ·rw [if_neg e3] at h1
    by_cases e2 : y < z
    ·rw [if_pos (by omega)]; simp
    ·rw [if_neg e2] at h2
     by_cases e4 : z < y
     ·rw [if_pos e4] at h2; simp at h2
     ·rw [if_neg e4] at h2
      rw [if_neg (by omega),if_neg (by omega)]
      exact IF h1 h2
def Srt (l : List Row) : Prop:=l.Pairwise fun a b => F8 a b < 0
theorem Yv : ∀ {a b : List Row},Srt a -> Srt b -> (∀ x,x ∈ a ↔ x ∈ b) -> a = b
 | [],[],_,_,_ => rfl
 | [],y :: b,_,_,h => by have:=(h y).2 (by simp); simp at this
 | x :: a,[],_,_,h => by have:=(h x).1 (by simp); simp at this
 | x :: a,y :: b,ha,hb,h => by
  obtain ⟨a1,a2⟩:=List.pairwise_cons.1 ha
  obtain ⟨b1,b2⟩:=List.pairwise_cons.1 hb
  have hxy : x = y:=by
   rcases List.mem_cons.1 ((h x).1 (by simp)) with e | hx
   ·exact e
   ·rcases List.mem_cons.1 ((h y).2 (by simp)) with e | hy
    ·exact e.symm
    ·have h1:=b1 x hx
     have h2:=a1 y hy
     have:=cmp_neg x y
     omega
  subst hxy
  have hne : ∀ z ∈ a,z ≠ x:=fun z hz e => by subst e; have:=a1 z hz; rw [Py] at this; omega
  have hne' : ∀ z ∈ b,z ≠ x:=fun z hz e => by subst e; have:=b1 z hz; rw [Py] at this; omega
  rw [Yv a2 b2 (fun z => ⟨fun hz => (List.mem_cons.1 ((h z).1 (by simp [hz]))).resolve_left (hne z hz),fun hz => (List.mem_cons.1 ((h z).2 (by simp [hz]))).resolve_left (hne' z hz)⟩)]
def TX (x : Row) : List Row -> List Row
 | [] => [x]
 | y :: l => if F8 x y < 0 then x :: y :: l else if F8 x y = 0 then y :: l else y :: TX x l
def sortB (l : List Row) : List Row:=l.foldr TX []
theorem RR (x : Row) : ∀ (l : List Row) (z : Row),z ∈ TX x l ↔ z = x ∨ z ∈ l
 | [],z => by simp [TX]
 | y :: l,z => by
  rw [TX]
  split
  ·simp
  ·split
   ·rename_i _ h; rw [LA h]; simp
   ·rw [List.mem_cons,RR x l z,List.mem_cons]
    constructor
    ·rintro (h | h | h) <;> simp [h]
    ·rintro (h | h | h) <;> simp [h]
theorem UW (x : Row) : ∀ (l : List Row),Srt l -> Srt (TX x l)
 | [],_ => List.pairwise_singleton _ _
 | y :: l,h => by
  obtain ⟨h1,h2⟩:=List.pairwise_cons.1 h
  rw [TX]
  split
  ·rename_i hc
   refine List.pairwise_cons.2 ⟨fun z hz => ?_,h⟩
   rcases List.mem_cons.1 hz with rfl | hz
   ·exact hc
   ·exact IF hc (h1 z hz)
  ·split
   ·exact h
   ·rename_i q1 q2
    refine List.pairwise_cons.2 ⟨fun z hz => ?_,UW x l h2⟩
    rcases (RR x l z).1 hz with rfl | hz
    ·have:=cmp_neg z y; omega
    ·exact h1 z hz
theorem JZ : ∀ l : List Row,Srt (sortB l)
 | [] => List.Pairwise.nil
 | x :: l => UW x _ (JZ l)
theorem Jf : ∀ (l : List Row) (z : Row),z ∈ sortB l ↔ z ∈ l
 | [],z => Iff.rfl
 | x :: l,z => by rw [show sortB (x :: l) = TX x (sortB l) from rfl,RR,Jf l z,List.mem_cons]
theorem Oh {l r : List Row} (h1 : Srt r) (h2 : ∀ z,z ∈ r ↔ z ∈ l) : r = sortB l:=Yv h1 (JZ l) (fun z => by rw [h2,Jf])
theorem UV (x : Row) : ∀ l : List Row,(TX x l).length <= l.length + 1
 | [] => by simp [TX]
 | y :: l => by
  rw [TX]
  split
  ·simp
  ·split
   ·simp
   ·have:=UV x l; simp; omega
theorem Iv : ∀ l : List Row,(sortB l).length <= l.length
 | [] => by simp [sortB]
 | x :: l => by
  have h1:=Iv l
  have h2:=UV x (sortB l)
  rw [show sortB (x :: l) = TX x (sortB l) from rfl,List.length_cons]; omega
theorem JV {S O : Type} {B : (S -> Option O) -> S -> Option O} (I : S -> Prop) (μ : S -> Nat) (R : O -> Prop) (h : ∀ s,I s -> (∃ o,R o ∧ ∀ rec,B rec s = some o) ∨ ∃ s',I s' ∧ μ s' < μ s ∧ ∀ rec,B rec s = rec s') : ∀ (m : Nat) (s : S),I s -> μ s < m -> ∃ o,Ah B m s = some o ∧ R o
 | 0,_,_,hm => by omega
 | m + 1,s,hs,hm => by
  rw [AD]
  rcases h s hs with ⟨o,ho,he⟩ | ⟨s',h1,h2,he⟩
  ·exact ⟨o,he _,ho⟩
  ·rw [he]; exact JV I μ R h m s' h1 (by omega)
theorem G2 {α : Type} (x : α) (l : List α) : Cq (x :: l) 1 ((x :: l).length : Int) = l:=by
 unfold Cq
 rw [Int.toNat_natCast,List.take_length]; rfl
theorem HK {α β : Type} (x : α) (l : List α) (y : Option β) : chk ((0 : Int) <= 1 ∧ 1 <= (List.length (x :: l) : Int) ∧ (List.length (x :: l) : Int) <= (List.length (x :: l) : Int)) y = y:=Ar (by simp only [List.length_cons]; omega)
theorem KY {α : Type} (x : α) (l : List α) : AA (x :: l) 0 = some x:=rfl
theorem Iu {α : Type} (x : α) (l : List α) : decide (0 < ((x :: l).length : Int)) = true:=decide_eq_true (by simp only [List.length_cons]; omega)
theorem IR {α : Type} (x : α) (l : List α) : (((x :: l).length : Int) == 0) = false:=by simp only [List.length_cons,beq_eq_false_iff_ne]; omega
section
variable {A0 B0 : List Row}
abbrev Rk:=Nat × Row
structure MInv (A0 B0 : List Row) (a b out : List Rk) : Prop where
 nd : ((out ++ (a ++ b)).map (·.1)).Nodup
 at_ : ∀ p ∈ out ++ (a ++ b),(A0 ++ B0)[p.1]? = some p.2
 so : Srt (out.map (·.2))
 sa : Srt (a.map (·.2))
 sb : Srt (b.map (·.2))
 lt : ∀ x ∈ out,∀ y ∈ a ++ b,F8 x.2 y.2 < 0
 mem : ∀ z,(z ∈ (out ++ (a ++ b)).map (·.2)) ↔ z ∈ A0 ++ B0
 len : ∀ p ∈ a ++ b,p.2.length <= lim
 few : out.length + a.length + b.length <= lim
theorem Ql {l : List Row} {x : Row} (h : Srt l) (hx : ∀ y ∈ l,F8 y x < 0) : Srt (l ++ [x]):=by
 unfold Srt
 rw [List.pairwise_append]
 exact ⟨h,List.pairwise_singleton _ _,fun a ha b hb => by rw [List.mem_singleton] at hb; subst hb; exact hx a ha⟩
theorem MInv.takeA {x : Rk} {a b out : List Rk} (h : MInv A0 B0 (x :: a) b out) (hb : ∀ y ∈ b,F8 x.2 y.2 < 0) : MInv A0 B0 a b (out ++ [x]):=by
 have sa:=h.sa
 rw [List.map_cons] at sa
 obtain ⟨s1,s2⟩:=List.pairwise_cons.1 sa
 have e : out ++ [x] ++ (a ++ b) = out ++ (x :: a ++ b):=by simp
 refine ⟨by rw [e]; exact h.nd,by rw [e]; exact h.at_,?_,s2,h.sb,?_,by rw [e]; exact h.mem,fun p hp => h.len p (by simp only [List.cons_append,List.mem_cons]; exact .inr hp),by have:=h.few; simp only [List.length_append,List.length_cons,List.length_nil] at this ⊢; omega⟩
 ·rw [List.map_append]
  exact Ql h.so (fun y hy => by obtain ⟨p,hp,rfl⟩:=List.mem_map.1 hy; exact h.lt p hp x (by simp))
 ·intro p hp y hy
  rcases List.mem_append.1 hp with hp | hp
  ·exact h.lt p hp y (by simp only [List.cons_append,List.mem_cons]; exact .inr hy)
  ·rw [List.mem_singleton] at hp
   subst hp
   rcases List.mem_append.1 hy with hy | hy
   ·exact s1 y.2 (List.mem_map_of_mem hy)
   ·exact hb y hy
theorem MInv.takeB {y : Rk} {a b out : List Rk} (h : MInv A0 B0 a (y :: b) out) (ha : ∀ x ∈ a,F8 y.2 x.2 < 0) : MInv A0 B0 a b (out ++ [y]):=by
 have sb:=h.sb
 rw [List.map_cons] at sb
 obtain ⟨s1,s2⟩:=List.pairwise_cons.1 sb
 have pe : (out ++ [y] ++ (a ++ b)).Perm (out ++ (a ++ y :: b)):=by
  rw [List.append_assoc]
  exact List.Perm.append_left _ (by rw [List.singleton_append]; exact (List.perm_middle (l₁:=a)).symm)
 refine ⟨((pe.map _).nodup_iff).2 h.nd,fun p hp => h.at_ p (pe.mem_iff.1 hp),?_,h.sa,s2,?_,fun z => by rw [(pe.map _).mem_iff]; exact h.mem z,fun p hp => h.len p (by rcases List.mem_append.1 hp with hp | hp <;> simp [hp]),by have:=h.few; simp only [List.length_append,List.length_cons,List.length_nil] at this ⊢; omega⟩
 ·rw [List.map_append]
  exact Ql h.so (fun z hz => by obtain ⟨p,hp,rfl⟩:=List.mem_map.1 hz; exact h.lt p hp y (by simp))
 ·intro p hp z hz
  rcases List.mem_append.1 hp with hp | hp
  ·exact h.lt p hp z (by rcases List.mem_append.1 hz with hz | hz <;> simp [hz])
  ·rw [List.mem_singleton] at hp
   subst hp
   rcases List.mem_append.1 hz with hz | hz
   ·exact ha z hz
   ·exact s1 z.2 (List.mem_map_of_mem hz)
theorem MInv.d4 {x y : Rk} {a b out : List Rk} (h : MInv A0 B0 (x :: a) (y :: b) out) (e : x.2 = y.2) : MInv A0 B0 a b (out ++ [x]):=by
 have sb:=h.sb
 rw [List.map_cons] at sb
 obtain ⟨s1,s2⟩:=List.pairwise_cons.1 sb
 have h2 : MInv A0 B0 (x :: a) b out -> MInv A0 B0 a b (out ++ [x]):=fun h' => h'.takeA (fun z hz => by rw [e]; exact s1 z.2 (List.mem_map_of_mem hz))
 refine h2 ?_
 have sub2 : ∀ {z : Rk},z ∈ x :: a ++ b -> z ∈ x :: a ++ y :: b:=fun hz => (List.Sublist.append (List.Sublist.refl _) (List.sublist_cons_self _ _)).subset hz
 have sub : List.Sublist (out ++ (x :: a ++ b)) (out ++ (x :: a ++ y :: b)):=List.Sublist.append (List.Sublist.refl _) (List.Sublist.append (List.Sublist.refl _) (List.sublist_cons_self _ _))
 refine ⟨h.nd.sublist (sub.map _),fun p hp => h.at_ p (sub.subset hp),h.so,h.sa,s2,fun p hp z hz => h.lt p hp z (sub2 hz),fun z => ?_,fun p hp => h.len p (sub2 hp),by have:=h.few; simp only [List.length_cons] at this ⊢; omega⟩
 rw [<- h.mem z]
 constructor
 ·intro hz; exact (sub.map _).subset hz
 ·intro hz
  obtain ⟨p,hp,rfl⟩:=List.mem_map.1 hz
  by_cases hy : p = y
  ·subst hy
   rw [<- e]
   exact List.mem_map_of_mem (by simp)
  ·refine List.mem_map_of_mem ?_
   simp only [List.mem_append,List.mem_cons] at hp ⊢
   rcases hp with hp | (hp | hp) | hp | hp
   ·exact .inl hp
   ·exact .inr (.inl (.inl hp))
   ·exact .inr (.inl (.inr hp))
   ·exact absurd hp hy
   ·exact .inr (.inr hp)
theorem U8 {x y : Rk} {b : List Rk} (hs : Srt ((y :: b).map (·.2))) (h : F8 x.2 y.2 < 0) : ∀ z ∈ y :: b,F8 x.2 z.2 < 0:=by
 rw [List.map_cons] at hs
 obtain ⟨s1,s2⟩:=List.pairwise_cons.1 hs
 intro z hz
 rcases List.mem_cons.1 hz with rfl | hz
 ·exact h
 ·exact IF h (s1 z.2 (List.mem_map_of_mem hz))
theorem Y5 {a b : List Rk} (h0 : MInv A0 B0 a b []) : ∃ o,Ah Bl fz (a,b,([] : List Rk)) = some o ∧ MInv A0 B0 [] [] o:=by
 refine JV (B:=Bl) (fun s => MInv A0 B0 s.1 s.2.1 s.2.2) (fun s => s.1.length + s.2.1.length) (fun o => MInv A0 B0 [] [] o) ?_ fz (a,b,[]) h0 (by have:=h0.few; simp at this ⊢; unfold lim at this; unfold fz; omega)
 rintro ⟨a,b,out⟩ h
 change MInv A0 B0 a b out at h
 have hf:=h.few
 cases a with
 | nil =>
  cases b with
  | nil => exact .inl ⟨out,h,fun rec => rfl⟩
  | cons y b =>
   refine .inr ⟨([],b,out ++ [y]),h.takeB (by simp),by simp,fun rec => ?_⟩
   simp only [Bl,Dv,List.length_nil,Iu,Int.natCast_zero]
   rw [show decide ((0 : Int) < 0) = false from rfl]
   simp only [cond_false,cond_true,show ((0 : Int) == 0) = true from rfl,Cr,Dw,KY,Ad]
   rw [show decide ((1 : Int) <= 0) = false from rfl,show decide ((0 : Int) <= 1) = true from rfl,show decide ((0 : Int) < 1) = true from rfl]
   simp only [cond_false,cond_true]
   rw [Ar (by simp only [List.length_cons,List.length_nil] at hf ⊢; omega)]
   simp only [E6,HK,G2]
 | cons x a =>
  cases b with
  | nil =>
   refine .inr ⟨(a,[],out ++ [x]),h.takeA (by simp),by simp,fun rec => ?_⟩
   simp only [Bl,Dv,Iu,cond_true,IR,cond_false,List.length_nil]
   rw [show decide ((0 : Int) < ((0 : Nat) : Int)) = false from rfl]
   simp only [cond_false,Cr,KY,Ad]
   rw [show decide ((-1 : Int) <= 0) = true from rfl,cond_true,Ar (by simp only [List.length_cons,List.length_nil] at hf ⊢; omega)]
   simp only [HK,G2,Dw]
   rfl
  | cons y b =>
   have hlx:=h.len x (by simp)
   rcases Int.lt_trichotomy (F8 x.2 y.2) 0 with hc | hc | hc
   ·refine .inr ⟨(a,y :: b,out ++ [x]),h.takeA (U8 h.sb hc),by simp,fun rec => ?_⟩
    simp only [Bl,Dv,Iu,cond_true,IR,cond_false,KY,Ad,TI hlx,Cr]
    rw [decide_eq_true (by omega : F8 x.2 y.2 <= 0),cond_true,Ar (by simp only [List.length_cons,List.length_nil] at hf ⊢; omega)]
    simp only [HK,G2,Dw]
    rw [decide_eq_false (by omega : ¬ 0 <= F8 x.2 y.2),cond_false]
   ·refine .inr ⟨(a,b,out ++ [x]),h.d4 (LA hc),by simp; omega,fun rec => ?_⟩
    simp only [Bl,Dv,Iu,cond_true,IR,cond_false,KY,Ad,TI hlx,Cr]
    rw [decide_eq_true (by omega : F8 x.2 y.2 <= 0),cond_true,Ar (by simp only [List.length_cons,List.length_nil] at hf ⊢; omega)]
    simp only [HK,G2,Dw]
    rw [decide_eq_true (by omega : 0 <= F8 x.2 y.2),cond_true,decide_eq_false (by omega : ¬ 0 < F8 x.2 y.2),cond_false]
    simp only [E6,HK,G2]
   ·have hc' : F8 y.2 x.2 < 0:=by have:=cmp_neg x.2 y.2; omega
    refine .inr ⟨(x :: a,b,out ++ [y]),h.takeB (U8 h.sa hc'),by simp,fun rec => ?_⟩
    simp only [Bl,Dv,Iu,cond_true,IR,cond_false,KY,Ad,TI hlx,Cr]
    rw [decide_eq_false (by omega : ¬ F8 x.2 y.2 <= 0),cond_false]
    simp only [Dw,KY,Ad]
    rw [decide_eq_true (by omega : 0 <= F8 x.2 y.2),cond_true,decide_eq_true (by omega : 0 < F8 x.2 y.2),cond_true,Ar (by simp only [List.length_cons,List.length_nil] at hf ⊢; omega)]
    simp only [E6,HK,G2]
theorem Vi {l : List Row} : ∀ (o : List Rk) (seen : List Nat),(o.map (·.1)).Nodup -> (∀ p ∈ o,p.1 ∉ seen) -> (∀ p ∈ o,l[p.1]? = some p.2) -> okJ l (o.map Sum.inl) seen = true
 | [],_,_,_,_ => rfl
 | p :: o,seen,hn,hs,ha => by
  rw [List.map_cons] at hn
  obtain ⟨n1,n2⟩:=List.nodup_cons.1 hn
  simp only [List.map_cons,okJ,ha p (by simp),beq_self_eq_true,Bool.true_and,Bool.and_eq_true,Bool.not_eq_true']
  refine ⟨by simpa using hs p (by simp),Vi o _ n2 (fun q hq => ?_) (fun q hq => ha q (by simp [hq]))⟩
  simp only [List.mem_cons,not_or]
  exact ⟨fun e => n1 (by rw [<- e]; exact List.mem_map_of_mem hq),hs q (by simp [hq])⟩
theorem IG : ∀ (k : Nat) (l : List Row),(I0 k l).map (·.2) = l
 | _,[] => rfl
 | k,x :: l => by rw [I0,List.map_cons,IG (k + 1) l]
theorem NI : ∀ (k : Nat) (l : List Row),(I0 k l).map (·.1) = List.range' k l.length
 | _,[] => rfl
 | k,x :: l => by rw [I0,List.map_cons,NI (k + 1) l,List.length_cons,List.range'_succ]
theorem PE : ∀ (k : Nat) (l : List Row) (p : Rk),p ∈ I0 k l -> k <= p.1 ∧ l[p.1 - k]? = some p.2
 | _,[],p,h => by simp [I0] at h
 | k,x :: l,p,h => by
  rw [I0] at h
  rcases List.mem_cons.1 h with rfl | h
  ·simp
  ·obtain ⟨h1,h2⟩:=PE (k + 1) l p h
   refine ⟨by omega,?_⟩
   rw [show p.1 - k = (p.1 - (k + 1)) + 1 by omega]
   simpa using h2
theorem VY (hA : Srt A0) (hB : Srt B0) (hl : A0.length + B0.length <= lim) (hr : ∀ x ∈ A0 ++ B0,x.length <= lim) : MInv A0 B0 (I0 0 A0) (I0 A0.length B0) []:=by
 refine ⟨?_,?_,List.Pairwise.nil,by rw [IG]; exact hA,by rw [IG]; exact hB,by simp,?_,?_,by simp [NH]; exact hl⟩
 ·rw [List.nil_append,List.map_append,NI,NI,show List.range' 0 A0.length ++ List.range' A0.length B0.length = List.range' 0 (A0.length + B0.length) by have:=List.range'_append_1 (s:=0) (m:=A0.length) (n:=B0.length); rwa [Nat.zero_add] at this]
  exact List.nodup_range'
 ·intro p hp
  rw [List.nil_append] at hp
  rcases List.mem_append.1 hp with hp | hp
  ·obtain ⟨_,h2⟩:=PE 0 A0 p hp
   rw [Nat.sub_zero] at h2
   have hlt : p.1 < A0.length:=by
    rcases Nat.lt_or_ge p.1 A0.length with h | h
    ·exact h
    ·rw [List.getElem?_eq_none h] at h2; cases h2
   rw [List.getElem?_append_left hlt]; exact h2
  ·obtain ⟨h1,h2⟩:=PE A0.length B0 p hp
   rw [List.getElem?_append_right h1]; exact h2
 ·intro z
  rw [List.nil_append,List.map_append,IG,IG]
 ·intro p hp
  refine hr p.2 ?_
  rcases List.mem_append.1 hp with hp | hp
  ·have:=List.mem_map_of_mem (f:=fun x : Rk => x.2) hp; rw [IG] at this; simp [this]
  ·have:=List.mem_map_of_mem (f:=fun x : Rk => x.2) hp; rw [IG] at this; simp [this]
end
theorem UK {n : Nat} (hn : n <= lim) : IntKind.i64.wrap (Int.tdiv (n : Int) 2) = ((n / 2 : Nat) : Int):=by
 rw [show Int.tdiv (n : Int) 2 = ((n / 2 : Nat) : Int) by rw [Int.tdiv_eq_ediv_of_nonneg (by omega)]; omega]
 exact wrap_in (by unfold lim at hn; omega)
theorem PQ : ∀ (m : Nat) (l : List Row),l.length < m -> l.length <= lim -> (∀ r ∈ l,r.length <= lim) -> Ah ET m l = some (sortB l)
 | 0,_,h,_,_ => by omega
 | m + 1,l,hm,hl,hr => by
  rw [AD,ET]
  by_cases h2 : (l.length : Int) < 2
  ·rw [decide_eq_true h2,cond_true,UO ⟨hl,hr⟩]
   have : Srt l:=by
    match l,h2 with
    | [],_ => exact List.Pairwise.nil
    | [x],_ => exact List.pairwise_singleton _ _
    | x :: y :: l,h => simp at h; omega
   simp only [Ad]
   rw [<- Oh this (fun z => Iff.rfl)]
  ·rw [decide_eq_false h2,cond_false,UK hl]
   have e1 : Cq l 0 ((l.length / 2 : Nat) : Int) = l.take (l.length / 2):=by unfold Cq; rw [Int.toNat_natCast]; rfl
   have e2 : Cq l ((l.length / 2 : Nat) : Int) (l.length : Int) = l.drop (l.length / 2):=by unfold Cq; rw [Int.toNat_natCast,Int.toNat_natCast,List.take_length]
   have l1 : (l.take (l.length / 2)).length < m:=by rw [List.length_take]; omega
   have l2 : (l.drop (l.length / 2)).length < m:=by rw [List.length_drop]; omega
   rw [Ar (by omega),e1,PQ m _ l1 (by rw [List.length_take]; omega) (fun r h => hr r (List.mem_of_mem_take h))]
   simp only [Ad]
   rw [Ar (by omega),e2,PQ m _ l2 (by rw [List.length_drop]; omega) (fun r h => hr r (List.mem_of_mem_drop h))]
   have s1:=Iv (l.take (l.length / 2))
   have s2:=Iv (l.drop (l.length / 2))
   rw [List.length_take] at s1
   rw [List.length_drop] at s2
   have hmem : ∀ z,z ∈ sortB (l.take (l.length / 2)) ++ sortB (l.drop (l.length / 2)) ↔ z ∈ l:=fun z => by
    rw [List.mem_append,Jf,Jf,<- List.mem_append,List.take_append_drop]
   obtain ⟨o,ho,hI⟩:=Y5 (VY (JZ (l.take (l.length / 2))) (JZ (l.drop (l.length / 2))) (by omega) (fun x hx => hr x ((hmem x).1 hx)))
   simp only [ho]
   rw [Ar (Vi o [] (by have:=hI.nd; simpa using this) (by simp) (by have:=hI.at_; simpa using this))]
   have e3 : List.map getM (List.map Sum.inl o) = o.map (·.2):=by rw [List.map_map]; rfl
   rw [e3,Oh (l:=l) hI.so (fun z => by have:=hI.mem z; simp only [List.append_nil] at this; rw [this,hmem])]
theorem XZ {l : List Row} (h : Hi l) : JU l = some (sortB l):=PQ fz l (FZ h.1) h.1 h.2
structure SInv (l0 : List Row) (a b out : List Row) : Prop where
 so : Srt out
 sa : Srt a
 sb : Srt b
 le : ∀ x ∈ out,∀ y ∈ a ++ b,F8 x y <= 0
 mem : ∀ z,z ∈ out ++ (a ++ b) ↔ z ∈ l0
 len : ∀ p ∈ out ++ (a ++ b),p.length <= lim
 few : out.length + a.length + b.length <= lim
def P4 (out : List Row) (x : Row) : List Row:=match out.getLast? with
 | none => [x]
 | some y => if F8 y x = 0 then out else out ++ [x]
theorem push_inv {l0 a b a' b' out : List Row} {x : Row} (h : SInv l0 a b out) (ha : Srt a') (hb : Srt b') (hlt : ∀ y ∈ a' ++ b',F8 x y <= 0) (hx : x ∈ a ++ b) (hm : ∀ z,z ∈ x :: (a' ++ b') ↔ z ∈ a ++ b) (hf : 1 + a'.length + b'.length <= a.length + b.length) : SInv l0 a' b' (P4 out x) ∧ (P4 out x).length <= out.length + 1:=by
 have hxl:=h.len x (by simp only [List.mem_append] at hx ⊢; exact .inr hx)
 have key : ∀ out',Srt out' -> (∀ z,z ∈ out' ↔ z ∈ out ∨ z = x) -> out'.length <= out.length + 1 -> SInv l0 a' b' out' ∧ out'.length <= out.length + 1:=fun out' s m l => by
  have hsub : ∀ y,y ∈ a' ++ b' -> y ∈ a ++ b:=fun y hy => (hm y).1 (by simp only [List.mem_cons]; exact .inr hy)
  refine ⟨⟨s,ha,hb,fun y hy z hz => ?_,fun z => ?_,fun p hp => ?_,by have:=h.few; omega⟩,l⟩
  ·rcases (m y).1 hy with hy | rfl
   ·exact h.le y hy z (hsub z hz)
   ·exact hlt z hz
  ·rw [<- h.mem z,(List.mem_append : z ∈ out' ++ (a' ++ b') ↔ _),(List.mem_append : z ∈ out ++ (a ++ b) ↔ _),m z,<- hm z,List.mem_cons]
   constructor
   ·rintro ((h | h) | h)
    ·exact .inl h
    ·exact .inr (.inl h)
    ·exact .inr (.inr h)
   ·rintro (h | h | h)
    ·exact .inl (.inl h)
    ·exact .inl (.inr h)
    ·exact .inr h
  ·rcases List.mem_append.1 hp with hp | hp
   ·rcases (m p).1 hp with hp | rfl
    ·exact h.len p (by simp [hp])
    ·exact hxl
   ·exact h.len p (List.mem_append_right _ (hsub p hp))
 unfold P4
 cases hl : out.getLast? with
 | none =>
  have : out = []:=by simpa using hl
  subst this
  exact key [x] (List.pairwise_singleton _ _) (fun z => by simp) (by simp)
 | some y =>
  simp only
  have hy : y ∈ out:=List.mem_of_getLast? hl
  have hyx:=h.le y hy x hx
  split
  ·rename_i hc
   have hxy:=LA hc
   refine key out h.so (fun z => ⟨.inl,fun hz => hz.elim id (fun e => by rw [e,<- hxy]; exact hy)⟩) (by omega)
  ·rename_i hc
   refine key (out ++ [x]) (Ql h.so (fun z hz => ?_)) (fun z => by simp) (by simp)
   have hzy : z = y ∨ F8 z y < 0:=by
    obtain ⟨ys,e⟩:=List.getLast?_eq_some_iff.1 hl
    rw [e] at hz
    rcases List.mem_append.1 hz with hz | hz
    ·right
     have:=h.so
     rw [e] at this
     exact (List.pairwise_append.1 this).2.2 z hz y (by simp)
    ·left; simpa using hz
   rcases hzy with rfl | hzy
   ·omega
   ·exact IF hzy (by omega)
theorem Tg {rec : (List Row × List Row × List Row) -> Option (List Row)} {out a b : List Row} {x : Row} (hl : ∀ r ∈ out,r.length <= lim) (hf : out.length + 1 <= lim) : FW rec out a b x = rec (a,b,P4 out x):=by
 unfold FW P4
 cases hg : out.getLast? with
 | none =>
  have : out = []:=by simpa using hg
  subst this
  simp only [List.length_nil,show (((0 : Nat) : Int) == 0) = true from rfl,cond_true,FX]
  rw [Ar (by simp; unfold lim; omega)]; rfl
 | some y =>
  obtain ⟨ys,e⟩:=List.getLast?_eq_some_iff.1 hg
  have hpos : 0 < out.length:=by rw [e]; simp
  have h0 : ((out.length : Int) == 0) = false:=by rw [beq_eq_false_iff_ne]; omega
  have hgi : AA out (IntKind.i64.wrap ((out.length : Int) - 1)) = some y:=by
   rw [wrap_in (by unfold lim at hf; omega),show (out.length : Int) - 1 = ((out.length - 1 : Nat) : Int) by omega,F0,e]
   simp
  rw [h0,cond_false,hgi]
  simp only [Ad,Qa (hl y (List.mem_of_getLast? hg)),FX]
  by_cases hc : F8 y x = 0
  ·rw [if_pos hc,show (F8 y x != 0) = false by rw [hc]; rfl,cond_false]
  ·rw [if_neg hc,show (F8 y x != 0) = true by simpa using hc,cond_true,Ar (by simpa using hf)]
theorem ZY {l0 a b : List Row} (h0 : SInv l0 a b []) : ∃ o,Ah BB fz (a,b,([] : List Row)) = some o ∧ SInv l0 [] [] o:=by
 refine JV (B:=BB) (fun s => SInv l0 s.1 s.2.1 s.2.2) (fun s => s.1.length + s.2.1.length) (fun o => SInv l0 [] [] o) ?_ fz (a,b,[]) h0 (by have:=h0.few; simp at this ⊢; unfold lim at this; unfold fz; omega)
 rintro ⟨a,b,out⟩ h
 change SInv l0 a b out at h
 have hf:=h.few
 have hlo : ∀ r ∈ out,r.length <= lim:=fun r hr => h.len r (by simp [hr])
 cases a with
 | nil =>
  cases b with
  | nil => exact .inl ⟨out,h,fun rec => rfl⟩
  | cons y b =>
   obtain ⟨s1,s2⟩:=List.pairwise_cons.1 h.sb
   obtain ⟨q1,q2⟩:=push_inv (x:=y) (a':=[]) (b':=b) h List.Pairwise.nil s2 (fun z hz => by have:=s1 z (by simpa using hz); omega) (by simp) (fun z => by simp) (by simp; omega)
   refine .inr ⟨([],b,P4 out y),q1,by simp,fun rec => ?_⟩
   simp only [BB,D9,List.length_nil,Iu,Int.natCast_zero]
   rw [show decide ((0 : Int) < 0) = false from rfl]
   simp only [cond_false,cond_true,show ((0 : Int) == 0) = true from rfl,Dy,KY,Ad]
   rw [show decide ((0 : Int) < 1) = true from rfl]
   simp only [cond_true,HK,G2]
   exact Tg hlo (by simp at hf; omega)
 | cons x a =>
  obtain ⟨r1,r2⟩:=List.pairwise_cons.1 h.sa
  cases b with
  | nil =>
   obtain ⟨q1,q2⟩:=push_inv (x:=x) (a':=a) (b':=[]) h r2 List.Pairwise.nil (fun z hz => by have:=r1 z (by simpa using hz); omega) (by simp) (fun z => by simp) (by simp; omega)
   refine .inr ⟨(a,[],P4 out x),q1,by simp,fun rec => ?_⟩
   simp only [BB,D9,Iu,cond_true,IR,cond_false,List.length_nil]
   rw [show decide ((0 : Int) < ((0 : Nat) : Int)) = false from rfl]
   simp only [cond_false,Dy,KY,Ad]
   rw [show decide ((0 : Int) < -1) = false from rfl]
   simp only [cond_false,HK,G2]
   exact Tg hlo (by simp at hf; omega)
  | cons y b =>
   obtain ⟨s1,s2⟩:=List.pairwise_cons.1 h.sb
   have hlx:=h.len x (by simp)
   by_cases hc : 0 < F8 x y
   ·have hyx : F8 y x < 0:=by have:=cmp_neg x y; omega
    obtain ⟨q1,q2⟩:=push_inv (x:=y) (a':=x :: a) (b':=b) h h.sa s2 (fun z hz => by
     rcases List.mem_append.1 hz with hz | hz
     ·rcases List.mem_cons.1 hz with rfl | hz
      ·omega
      ·have:=IF hyx (r1 z hz); omega
     ·have:=s1 z hz; omega) (by simp) (fun z => by simp only [List.mem_cons,List.mem_append]; constructor <;> (intro hh; rcases hh with hh | (hh | hh) | hh <;> simp_all)) (by simp; omega)
    refine .inr ⟨(x :: a,b,P4 out y),q1,by simp,fun rec => ?_⟩
    simp only [BB,D9,Iu,cond_true,IR,cond_false,KY,Ad,Qa hlx,Dy]
    rw [decide_eq_true hc]
    simp only [cond_true,HK,G2]
    exact Tg hlo (by simp at hf; omega)
   ·have hxy : F8 x y <= 0:=by omega
    obtain ⟨q1,q2⟩:=push_inv (x:=x) (a':=a) (b':=y :: b) h r2 h.sb (fun z hz => by
     rcases List.mem_append.1 hz with hz | hz
     ·have:=r1 z hz; omega
     ·rcases List.mem_cons.1 hz with rfl | hz
      ·exact hxy
      ·have h3:=s1 z hz
       by_cases h4 : F8 x y = 0
       ·rw [LA h4]; omega
       ·have:=IF (by omega : F8 x y < 0) h3; omega) (by simp) (fun z => by simp) (by simp; omega)
    refine .inr ⟨(a,y :: b,P4 out x),q1,by simp,fun rec => ?_⟩
    simp only [BB,D9,Iu,cond_true,IR,cond_false,KY,Ad,Qa hlx,Dy]
    rw [decide_eq_false hc]
    simp only [cond_false,HK,G2]
    exact Tg hlo (by simp at hf; omega)
theorem Qb : ∀ (m : Nat) (l : List Row),l.length < m -> l.length <= lim -> (∀ r ∈ l,r.length <= lim) -> Ah E0 m l = some (sortB l)
 | 0,_,h,_,_ => by omega
 | m + 1,l,hm,hl,hr => by
  rw [AD,E0]
  by_cases h2 : (l.length : Int) < 2
  ·rw [decide_eq_true h2,cond_true]
   have : Srt l:=by
    match l,h2 with
    | [],_ => exact List.Pairwise.nil
    | [x],_ => exact List.pairwise_singleton _ _
    | x :: y :: l,h => simp at h; omega
   rw [<- Oh this (fun z => Iff.rfl)]
  ·rw [decide_eq_false h2,cond_false,UK hl]
   have e1 : Cq l 0 ((l.length / 2 : Nat) : Int) = l.take (l.length / 2):=by unfold Cq; rw [Int.toNat_natCast]; rfl
   have e2 : Cq l ((l.length / 2 : Nat) : Int) (l.length : Int) = l.drop (l.length / 2):=by unfold Cq; rw [Int.toNat_natCast,Int.toNat_natCast,List.take_length]
   have l1 : (l.take (l.length / 2)).length < m:=by rw [List.length_take]; omega
   have l2 : (l.drop (l.length / 2)).length < m:=by rw [List.length_drop]; omega
   rw [Ar (by omega),e1,Qb m _ l1 (by rw [List.length_take]; omega) (fun r h => hr r (List.mem_of_mem_take h))]
   simp only [Ad]
   rw [Ar (by omega),e2,Qb m _ l2 (by rw [List.length_drop]; omega) (fun r h => hr r (List.mem_of_mem_drop h))]
   have s1:=Iv (l.take (l.length / 2))
   have s2:=Iv (l.drop (l.length / 2))
   rw [List.length_take] at s1
   rw [List.length_drop] at s2
   have hmem : ∀ z,z ∈ sortB (l.take (l.length / 2)) ++ sortB (l.drop (l.length / 2)) ↔ z ∈ l:=fun z => by
    rw [List.mem_append,Jf,Jf,<- List.mem_append,List.take_append_drop]
   obtain ⟨o,ho,hI⟩:=ZY (l0:=l) (a:=sortB (l.take (l.length / 2))) (b:=sortB (l.drop (l.length / 2))) ⟨List.Pairwise.nil,JZ _,JZ _,by simp,fun z => by rw [List.nil_append]; exact hmem z,fun p hp => hr p ((hmem p).1 (by simpa using hp)),by simp; omega⟩
   simp only [ho]
   rw [Oh (l:=l) hI.so (fun z => by have:=hI.mem z; simpa using this)]
theorem dR {l : List Row} (h : Hi l) : Lv l = some (sortB l):=Qb fz l (FZ h.1) h.1 h.2
end Go.Proofs.YtkclaipnejgloaaGreatDoor
