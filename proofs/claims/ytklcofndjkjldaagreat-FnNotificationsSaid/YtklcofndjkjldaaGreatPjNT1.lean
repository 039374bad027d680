/-
 Counted relations: validity, projection; the reference and the program give the same. On the printed functions; conditions: lengths.
-/
import Derived.Test.YtklcofndjkjldaaGreatApNT1
import Derived.Test.YtklcofndjkjldaaGreatAbNT1
import Derived.Test.YtklcofndjkjldaaGreatEnNT1
namespace Go.Proofs.YtklcofndjkjldaaGreat
open Go.RowKit
set_option linter.unusedVariables false
set_option linter.unusedSimpArgs false
abbrev Pr:=Row × Int
def CG : List Pr -> Row -> Int
 | [],_ => 0
 | p :: l,z => (if p.1 = z then p.2 else 0) + CG l z
theorem Nb (z : Row) (p : Pr) : ∀ l : List Pr,CG (l ++ [p]) z = CG l z + if p.1 = z then p.2 else 0
 | [] => by simp [CG]
 | q :: l => by rw [List.cons_append,CG,CG,Nb z p l]; omega
theorem LZ {z : Row} : ∀ {l : List Pr},(∀ p ∈ l,p.1 ≠ z) -> CG l z = 0
 | [],_ => rfl
 | p :: l,h => by rw [CG,if_neg (h p (List.mem_cons_self ..)),LZ fun q hq => h q (List.mem_cons_of_mem _ hq)]; rfl
def OkL (l : List Pr) : Prop:=l.length <= 65536 ∧ ∀ p ∈ l,p.1.length <= lim ∧ -1000000 <= p.2 ∧ p.2 <= 1000000
theorem RD (z : Row) : ∀ {l : List Pr},(∀ p ∈ l,-1000000 <= p.2 ∧ p.2 <= 1000000) -> -(1000000 * (l.length : Int)) <= CG l z ∧ CG l z <= 1000000 * (l.length : Int)
 | [],_ => by simp [CG]
 | p :: l,h => by
  have h1:=h p (List.mem_cons_self ..)
  have h2:=RD z fun q hq => h q (List.mem_cons_of_mem _ hq)
  rw [CG,List.length_cons]
  split <;> omega
def keysL (l : List Pr) : List Row:=sortB (l.map (·.1))
def WW (a : Int) (l : List Pr) : Cnt:=(a,keysL l,(keysL l).map (CG l))
def nzB (l : List Pr) (z : Row) : Bool:=CG l z != 0
def KE (a : Int) (l : List Pr) : Cnt:=(a,(keysL l).filter (nzB l),((keysL l).filter (nzB l)).map (CG l))
theorem H2 {l : List Pr} {z : Row} : z ∈ keysL l ↔ ∃ p ∈ l,p.1 = z:=by unfold keysL; rw [EX,List.mem_map]
theorem Wa (l : List Pr) : (keysL l).length <= l.length:=by have:=GC (l.map (·.1)); rw [List.length_map] at this; exact this
theorem I7 (l : List Pr) : Srt (keysL l):=Hw _
theorem NO {l : List Pr} (h : OkL l) : A9 (keysL l):=⟨by have:=GC (l.map (·.1)); rw [List.length_map] at this; have:=h.1; unfold keysL lim; omega,fun r hr => by
 obtain ⟨p,hp,rfl⟩:=H2.1 hr
 exact (h.2 p hp).1⟩
theorem SJ {l : List Row} (h : Srt l) : l.Nodup:=by
 rw [List.nodup_iff_pairwise_ne]
 exact h.imp fun h e => by subst e; rw [JI] at h; omega
theorem at_k {rows : List Row} {row : Row} (hs : Srt rows) {k : Nat} (h1 : ∀ i (hi : i < rows.length),i < k -> EJ rows[i] row < 0) (h2 : ∀ i (hi : i < rows.length),k <= i -> ¬ EJ rows[i] row < 0) (hm : row ∈ rows) : ∃ hk : k < rows.length,rows[k] = row:=by
 obtain ⟨j,hj,rfl⟩:=List.mem_iff_getElem.1 hm
 have hkj : ¬ j < k:=fun h3 => by have:=h1 j hj h3; rw [JI] at this; omega
 have hlt : k < rows.length:=by omega
 rcases Nat.lt_or_ge k j with h3 | h3
 ·exact absurd (List.pairwise_iff_getElem.1 hs k j hlt hj h3) (h2 k hlt (Nat.le_refl _))
 ·have : k = j:=by omega
  subst this
  exact ⟨hj,rfl⟩
theorem Vh {K : List Row} (hK : K.Nodup) {j : Nat} (hj : j < K.length) (l : List Pr) (n : Int) : (K.map (CG l)).set j (CG l K[j] + n) = K.map (CG (l ++ [(K[j],n)])):=by
 refine List.ext_getElem (by simp) fun i h1 h2 => ?_
 rw [List.getElem_set,List.getElem_map,List.getElem_map,Nb]
 have hi : i < K.length:=by rw [List.length_map] at h2; exact h2
 by_cases h : j = i
 ·subst h; rw [if_pos rfl,if_pos rfl]
 ·rw [if_neg h,if_neg (fun e => h ((List.getElem_inj hK).1 e))]; omega
theorem V9 {l : List Pr} {row : Row} (n : Int) (h : row ∈ keysL l) : keysL (l ++ [(row,n)]) = keysL l:=by
 refine (Le (I7 l) fun z => ?_).symm
 rw [H2,List.mem_map]
 constructor
 ·rintro ⟨p,hp,rfl⟩; exact ⟨p,List.mem_append_left _ hp,rfl⟩
 ·rintro ⟨p,hp,rfl⟩
  rcases List.mem_append.1 hp with hp | hp
  ·exact ⟨p,hp,rfl⟩
  ·rw [List.mem_singleton] at hp; subst hp; exact H2.1 h
theorem Wb {l : List Pr} {row : Row} (n : Int) (h : row ∉ keysL l) {k : Nat} (hk : k <= (keysL l).length) (h1 : ∀ i (hi : i < (keysL l).length),i < k -> EJ (keysL l)[i] row < 0) (h2 : ∀ i (hi : i < (keysL l).length),k <= i -> ¬ EJ (keysL l)[i] row < 0) :
  keysL (l ++ [(row,n)]) = (keysL l).take k ++ [row] ++ (keysL l).drop k ∧ (keysL (l ++ [(row,n)])).map (CG (l ++ [(row,n)])) = ((keysL l).map (CG l)).take k ++ [n] ++ ((keysL l).map (CG l)).drop k:=by
 have hs:=I7 l
 have e1 : keysL (l ++ [(row,n)]) = (keysL l).take k ++ [row] ++ (keysL l).drop k:=by
  refine (Le ?_ fun z => ?_).symm
  ·unfold Srt
   rw [List.append_assoc,List.pairwise_append]
   refine ⟨hs.sublist (List.take_sublist _ _),?_,fun a ha b hb => ?_⟩
   ·rw [List.singleton_append,List.pairwise_cons]
    refine ⟨fun b hb => ?_,hs.sublist (List.drop_sublist _ _)⟩
    obtain ⟨i,hi,rfl⟩:=List.mem_iff_getElem.1 hb
    rw [List.length_drop] at hi
    rw [List.getElem_drop]
    have h3:=h2 (k + i) (by omega) (by omega)
    have h4:=cmp_neg (keysL l)[k + i] row
    rcases Int.lt_trichotomy (EJ (keysL l)[k + i] row) 0 with h5 | h5 | h5
    ·omega
    ·exact absurd (List.getElem_mem _) (by rw [JJ h5]; exact h)
    ·omega
   ·obtain ⟨i,hi,rfl⟩:=List.mem_iff_getElem.1 ha
    rw [List.length_take] at hi
    rw [List.getElem_take]
    have h3:=h1 i (by omega) (by omega)
    rcases List.mem_append.1 hb with hb | hb
    ·rw [List.mem_singleton] at hb; subst hb; exact h3
    ·obtain ⟨j,hj,rfl⟩:=List.mem_iff_getElem.1 hb
     rw [List.length_drop] at hj
     rw [List.getElem_drop]
     exact List.pairwise_iff_getElem.1 hs _ _ _ _ (by omega)
  ·rw [List.mem_append,List.mem_append,List.mem_singleton,List.mem_map]
   constructor
   ·rintro ((h3 | rfl) | h3)
    ·obtain ⟨p,hp,e⟩:=H2.1 (List.mem_of_mem_take h3); exact ⟨p,List.mem_append_left _ hp,e⟩
    ·exact ⟨_,List.mem_append_right _ (List.mem_singleton.2 rfl),rfl⟩
    ·obtain ⟨p,hp,e⟩:=H2.1 (List.mem_of_mem_drop h3); exact ⟨p,List.mem_append_left _ hp,e⟩
   ·rintro ⟨p,hp,rfl⟩
    rcases List.mem_append.1 hp with hp | hp
    ·have h3 : p.1 ∈ keysL l:=H2.2 ⟨p,hp,rfl⟩
     rw [<- List.take_append_drop k (keysL l),List.mem_append] at h3
     exact h3.elim (fun h => .inl (.inl h)) .inr
    ·rw [List.mem_singleton] at hp; subst hp; exact .inl (.inr rfl)
 have h0 : CG l row = 0:=LZ fun p hp e => h (H2.2 ⟨p,hp,e⟩)
 have hne : ∀ z ∈ keysL l,CG (l ++ [(row,n)]) z = CG l z:=fun z hz => by
  rw [Nb,if_neg (fun e => h (by rw [show row = z from e]; exact hz))]; omega
 refine ⟨e1,?_⟩
 rw [e1,List.map_append,List.map_append,List.map_singleton,<- List.map_take,<- List.map_drop,Nb,if_pos rfl,h0,Int.zero_add]
 rw [List.map_congr_left fun z hz => hne z (List.mem_of_mem_take hz),List.map_congr_left fun z hz => hne z (List.mem_of_mem_drop hz)]
theorem YR {l : List Pr} {k : Nat} (h : OkL l) : OkL (l.take k):=⟨by rw [List.length_take]; have:=h.1; omega,fun p hp => h.2 p (List.mem_of_mem_take hp)⟩
theorem Uk {a : Int} {l : List Pr} {row : Row} {n : Int} (h : OkL l) (hrow : row.length <= lim) (hn : -1000000 <= n ∧ n <= 1000000) : GA (WW a l) row n = some (WW a (l ++ [(row,n)])):=by
 have hs:=I7 l
 have hsm:=NO h
 have hb:=RD row fun p hp => (h.2 p hp).2
 have hl:=h.1
 obtain ⟨k,hk,e,h1,h2⟩:=Sb (row:=row) hs hsm
 have hKl : (keysL l).length <= 65536:=by have:=GC (l.map (·.1)); rw [List.length_map] at this; unfold keysL; omega
 show GA (a,keysL l,(keysL l).map (CG l)) row n = some (a,keysL (l ++ [(row,n)]),(keysL (l ++ [(row,n)])).map (CG (l ++ [(row,n)])))
 unfold GA
 dsimp only
 rw [e,AE]
 cases hc : (keysL l).contains row with
 | true =>
  have hm : row ∈ keysL l:=List.contains_iff_mem.1 hc
  obtain ⟨hk',ek⟩:=at_k hs h1 h2 hm
  simp only [cond_true]
  have eg : AK ((keysL l).map (CG l)) (k : Int) = some (CG l row):=by
   rw [Aj (by rw [List.length_map]; exact hk'),List.getElem_map,ek]
  rw [Ak (show 0 < ((keysL l).map (CG l)).length by rw [List.length_map]; omega),eg,AE,AE,wrap_in (by omega)]
  have es:=Vh (SJ hs) hk' l n
  rw [ek] at es
  show some (a,keysL l,((keysL l).map (CG l)).set (Int.toNat (k : Int)) (CG l row + n)) = some (a,keysL (l ++ [(row,n)]),(keysL (l ++ [(row,n)])).map (CG (l ++ [(row,n)])))
  rw [Int.toNat_natCast,es,V9 n hm]
 | false =>
  have hm : row ∉ keysL l:=fun hm => by rw [List.contains_iff_mem.2 hm] at hc; cases hc
  obtain ⟨e1,e2⟩:=Wb n hm hk h1 h2
  have hE : (AA 0 (keysL l)).length = (keysL l).length:=Ib 0 _
  simp only [cond_false,List.nil_append]
  have t1 : BX (AA 0 (keysL l)) 0 (k : Int) = (AA 0 (keysL l)).take k:=by simp [BX]
  have t2 : BX (AA 0 (keysL l)) (k : Int) ((List.length (AA 0 (keysL l)) : Nat) : Int) = (AA 0 (keysL l)).drop k:=by unfold BX; rw [Int.toNat_natCast,Int.toNat_natCast,List.take_length]
  have hC : ((keysL l).map (CG l)).length = (keysL l).length:=List.length_map _
  have t3 : BX ((keysL l).map (CG l)) 0 (k : Int) = ((keysL l).map (CG l)).take k:=by unfold BX; rw [Int.toNat_natCast]; rfl
  have t4 : BX ((keysL l).map (CG l)) (k : Int) ((List.length ((keysL l).map (CG l)) : Nat) : Int) = ((keysL l).map (CG l)).drop k:=by unfold BX; rw [Int.toNat_natCast,Int.toNat_natCast,List.take_length]
  obtain ⟨ok,gm⟩:=UL (keysL l) k [row]
  have hlt : (List.take k (AA 0 (keysL l))).length = k:=by rw [List.length_take,hE]; omega
  have hld : (List.drop k (AA 0 (keysL l))).length = (keysL l).length - k:=by rw [List.length_drop,hE]
  have hlt' : (List.take k ((keysL l).map (CG l))).length = k:=by rw [List.length_take,hC]; omega
  have hld' : (List.drop k ((keysL l).map (CG l))).length = (keysL l).length - k:=by rw [List.length_drop,hC]
  rw [t1,t2,t3,t4]
  rw [Ak (by rw [hE]; omega),Ak (by rw [hlt,List.length_nil]; unfold lim; omega),JM hrow,AE,Ak (by rw [<- NP,<- Tj,hlt,List.length_singleton]; unfold lim; omega)]
  rw [Ak (show (0 : Int) <= (k : Int) ∧ (k : Int) <= (List.length (AA 0 (keysL l)) : Int) ∧ (List.length (AA 0 (keysL l)) : Int) <= (List.length (AA 0 (keysL l)) : Int) by rw [hE]; omega)]
  rw [Ak (by rw [List.length_append,<- NP,<- NP,<- Tj,hlt,hld,List.length_singleton]; unfold lim; omega),Ak ok,gm]
  rw [Ak (show (0 : Int) <= 0 ∧ 0 <= (k : Int) ∧ (k : Int) <= (List.length ((keysL l).map (CG l)) : Int) by rw [hC]; omega),JM (by rw [hlt']; unfold lim; omega),AE,Ak (by rw [hlt',List.length_singleton]; unfold lim; omega)]
  rw [Ak (show (0 : Int) <= (k : Int) ∧ (k : Int) <= (List.length ((keysL l).map (CG l)) : Int) ∧ (List.length ((keysL l).map (CG l)) : Int) <= (List.length ((keysL l).map (CG l)) : Int) by rw [hC]; omega)]
  rw [Ak (by rw [List.length_append,hlt',hld',List.length_singleton]; unfold lim; omega)]
  show some (a,_,_) = some (a,keysL (l ++ [(row,n)]),(keysL (l ++ [(row,n)])).map (CG (l ++ [(row,n)])))
  rw [e2,e1]
theorem Qa {a : Int} {l : List Pr} (h : OkL l) : Fm (a,AA 0 (keysL l),(keysL l).map (CG l)) = some (a,(AA 0 (keysL l)).filter (fun p => nzB l p.2),((keysL l).filter (nzB l)).map (CG l)):=by
 have hKl:=(NO h).1
 have hE : (AA 0 (keysL l)).length = (keysL l).length:=Ib 0 _
 have hC : ((keysL l).map (CG l)).length = (keysL l).length:=List.length_map _
 have:=Ed (body:=DL (a,AA 0 (keysL l),(keysL l).map (CG l))) (out:=((AA 0 (keysL l)).filter (fun p => nzB l p.2),((keysL l).filter (nzB l)).map (CG l))) (fun k => (((AA 0 (keysL l)).take k).filter (fun p => nzB l p.2),(((keysL l).take k).filter (nzB l)).map (CG l),(k : Int))) (keysL l).length (fun k hk rec => by
  have hkE : k < (AA 0 (keysL l)).length:=by omega
  have hEk : (AA 0 (keysL l))[k] = (k,(keysL l)[k]):=by
   have:=Lr (keysL l) 0 k
   rw [List.getElem?_eq_getElem hkE,List.getElem?_eq_getElem hk] at this
   simpa using this
  have hW : IntKind.i64.wrap ((k : Int) + 1) = ((k + 1 : Nat) : Int):=AO hk (At hKl)
  simp only [DL]
  rw [decide_eq_true (by rw [hC]; omega),cond_true,Aj (by rw [hC]; exact hk),AE,Kc hkE,Kc hk,List.getElem_map,hEk]
  have f1:=I2 hkE (by omega) (fun p => nzB l p.2) (k,(keysL l)[k])
  have f2:=I2 hk hKl (nzB l) (keysL l)[k]
  cases hz : nzB l (keysL l)[k] with
  | true =>
   have hz' : (CG l (keysL l)[k] != 0) = true:=hz
   rw [hz',cond_true,Aj hkE,hEk,AE,Ak f1,Ak (by rw [List.length_map]; exact f2)]
   simp only [E7,hz,cond_true,List.map_append,List.map_cons,List.map_nil,hW]
  | false =>
   have hz' : (CG l (keysL l)[k] != 0) = false:=hz
   rw [hz']
   simp only [cond_false,E7,hz,List.append_nil,hW]) (fun rec => by
  simp only [DL]
  rw [decide_eq_false (by rw [hC]; omega),cond_false,List.take_length,List.take_of_length_le (by omega)]) fz (Ii hKl)
 unfold Fm
 have e0 : Al (DL (a,AA 0 (keysL l),(keysL l).map (CG l))) fz (([] : List (Nat × List Int)),([] : List Int),0) = some ((AA 0 (keysL l)).filter (fun p => nzB l p.2),((keysL l).filter (nzB l)).map (CG l)):=this
 rw [e0]; rfl
theorem Pk (l : List Pr) : List.map getM (HL ((AA 0 (keysL l)).filter (fun p => nzB l p.2))) = (keysL l).filter (nzB l):=by
 unfold HL
 rw [List.map_map]
 have e1 : (getM ∘ Sum.inl : Nat × Row -> Row) = fun p => p.2:=rfl
 rw [e1]
 have e2:=List.filter_map (p:=nzB l) (f:=fun p : Nat × Row => p.2) (l:=AA 0 (keysL l))
 have e3 : (AA 0 (keysL l)).map (fun p => p.2) = keysL l:=Ic 0 _
 rw [e3] at e2
 exact e2.symm
theorem Rj (l : List Pr) : okJ (keysL l) (HL ((AA 0 (keysL l)).filter (fun p => nzB l p.2))) [] = true:=by
 refine Ro _ _ ?_ (by simp) (fun p hp => ?_)
 ·refine List.Nodup.sublist (List.Sublist.map _ List.filter_sublist) ?_
  rw [Ls]; exact List.nodup_range'
 ·have:=(MY 0 _ p (List.mem_filter.1 hp).1).2
  simpa using this
def GK (c : Cnt) : Bool:=((List.length c.2.1 : Int) == (List.length c.2.2 : Int)) && (Fi (c.1,c.2.1) && !AU c.2.2 fun _ n => (n == 0) || !btw n (-1000000) 1000000)
theorem WF {c : Cnt} (h : GL c) : Bh c = some (GK c):=by
 unfold Bh GK AU bne
 cases (List.length c.2.1 : Int) == (List.length c.2.2 : Int) with
 | false => rfl
 | true =>
  simp only [Bool.not_true,cond_false,Bool.true_and]
  rw [MO (r:=(c.1,c.2.1)) h.1,AE]
  cases Fi (c.1,c.2.1) with
  | false => rfl
  | true =>
   simp only [Bool.not_true,cond_false,Bool.true_and]
   rw [Bm (fun k => atB c.2.2 k fun n => (n == 0) || !btw n (-1000000) 1000000) h.2 (fun k hk rec => by
    unfold D8
    rw [AF hk,Aj hk,AO hk (At h.2),AN hk]
    simp only [cond_true,Ad,KS]
    cases c.2.2[k] == 0 <;> cases btw c.2.2[k] (-1000000) 1000000 <;> rfl) (fun rec => by unfold D8; rw [Az]; rfl)]
   cases (List.range c.2.2.length).any fun k => atB c.2.2 k fun n => (n == 0) || !btw n (-1000000) 1000000 <;> rfl
theorem ay {a : Int} {l : List Row} (h : A9 l) : EL a l = some (Fi (a,l)):=by
 have:=MK (r:=(a,l)) h
 unfold AC at this
 cases hx : EL a l with
 | none => rw [hx] at this; cases this
 | some b => rw [hx] at this; exact this
theorem Td {c : Cnt} (h : GL c) : AX c = some (GK c):=by
 unfold AX GK AU
 rw [ay h.1,AE]
 have hsw : ((List.length c.2.2 : Int) != (List.length c.2.1 : Int)) = !((List.length c.2.1 : Int) == (List.length c.2.2 : Int)):=by
  rw [bne,Bool.eq_iff_iff]; simp only [Bool.not_eq_true',beq_eq_false_iff_ne,ne_eq]; exact ⟨fun h e => h e.symm,fun h e => h e.symm⟩
 cases Fi (c.1,c.2.1) with
 | false => simp
 | true =>
  simp only [Bool.not_true,cond_false,Bool.true_and,hsw]
  cases (List.length c.2.1 : Int) == (List.length c.2.2 : Int) with
  | false => rfl
  | true =>
   simp only [Bool.not_true,cond_false,Bool.true_and]
   rw [Bm (fun k => atB c.2.2 k fun n => (n == 0) || !btw n (-1000000) 1000000) h.2 (fun k hk rec => by
    unfold DZ
    rw [AF hk,Aj hk,AO hk (At h.2),AN hk]
    simp only [cond_true,Ad,HZ]
    cases c.2.2[k] == 0 <;> cases btw c.2.2[k] (-1000000) 1000000 <;> rfl) (fun rec => by unfold DZ; rw [Az]; rfl)]
   cases (List.range c.2.2.length).any fun k => atB c.2.2 k fun n => (n == 0) || !btw n (-1000000) 1000000 <;> rfl
theorem B8 {c : Cnt} (h : GK c = true) : Fi (c.1,c.2.1) = true ∧ c.2.1.length = c.2.2.length ∧ c.2.1.length <= 4000 ∧ (∀ x ∈ c.2.1,(x.length : Int) = c.1 ∧ Lo x = true) ∧ 0 <= c.1 ∧ c.1 <= 5 ∧ ∀ n ∈ c.2.2,-1000000 <= n ∧ n <= 1000000:=by
 unfold GK at h
 simp only [Bool.and_eq_true,Bool.not_eq_true',beq_iff_eq] at h
 obtain ⟨h1,h2,h3⟩:=h
 obtain ⟨r1,r2,r3,r4⟩:=LK h2
 refine ⟨h2,by omega,r3,r4,r1,r2,fun n hn => ?_⟩
 have:=HN h3 hn
 simp only [Bool.or_eq_false_iff,Bool.not_eq_false'] at this
 unfold btw at this
 simpa using this.2
def Lq (n : Int) (cols : List Int) : Bool:=(!AU cols fun _ e => !btw e 0 (IntKind.i64.wrap (n - 1))) && decide ((cols.length : Int) <= 5)
def I8 (c : Cnt) (cols : List Int) : List Pr:=(c.2.1.map fun r => DD r cols).zip c.2.2
def pjC (c : Cnt) (cols : List Int) : Cnt × Bool:=cond (GK c && (Lq c.1 cols && GK (KE (cols.length : Int) (I8 c cols)))) (KE (cols.length : Int) (I8 c cols),true) ((0,[],[]),false)
theorem O5 {c : Cnt} {cols : List Int} (hc : GK c = true) (h : Lq c.1 cols = true) : cols.length <= 5 ∧ ∀ r ∈ c.2.1,∀ v ∈ cols,0 <= v ∧ v < (r.length : Int):=by
 obtain ⟨-,-,-,f4,f5,f6,-⟩:=B8 hc
 unfold Lq at h
 simp only [Bool.and_eq_true,Bool.not_eq_true',decide_eq_true_eq] at h
 refine ⟨by omega,fun r hr v hv => ?_⟩
 have:=HN h.1 hv
 rw [Bool.not_eq_false',wrap_in (by omega)] at this
 unfold btw at this
 simp only [Bool.and_eq_true,decide_eq_true_eq] at this
 have:=(f4 r hr).1
 omega
theorem U1 {c : Cnt} {cols : List Int} (hc : GK c = true) {k : Nat} (hk : k < c.2.1.length) : ∃ h : k < (I8 c cols).length,∃ h2 : k < c.2.2.length,(I8 c cols)[k] = (DD c.2.1[k] cols,c.2.2[k]):=by
 have f2:=(B8 hc).2.1
 have h : k < (I8 c cols).length:=by unfold I8; rw [List.length_zip,List.length_map]; omega
 refine ⟨h,by omega,?_⟩
 have e : (I8 c cols)[k]'h = ((c.2.1.map fun r => DD r cols)[k]'(by rw [List.length_map]; exact hk),c.2.2[k]'(by omega)):=List.getElem_zip
 rw [e,List.getElem_map]
theorem Pz {c : Cnt} {cols : List Int} (hc : GK c = true) : (I8 c cols).length = c.2.1.length:=by
 have f2:=(B8 hc).2.1
 unfold I8; rw [List.length_zip,List.length_map]; omega
theorem SA {c : Cnt} {cols : List Int} (hc : GK c = true) (hl : cols.length <= 5) : OkL (I8 c cols):=by
 obtain ⟨-,f2,f3,-,-,-,f7⟩:=B8 hc
 refine ⟨by rw [Pz hc]; omega,fun p hp => ?_⟩
 obtain ⟨k,hk,rfl⟩:=List.mem_iff_getElem.1 hp
 rw [Pz hc] at hk
 obtain ⟨h1,h2,e⟩:=U1 (cols:=cols) hc hk
 rw [e]
 exact ⟨by simp only [DD,List.length_map]; unfold lim; omega,f7 _ (List.getElem_mem h2)⟩
theorem Y2 {c : Cnt} {cols : List Int} (hc : GK c = true) : (I8 c cols).map (·.1) = c.2.1.map fun r => DD r cols:=by
 have f2:=(B8 hc).2.1
 unfold I8
 rw [<- List.unzip_fst,List.unzip_zip (by rw [List.length_map]; exact f2)]
theorem N3 {a : Int} {l : List Pr} (h : OkL l) : GL (KE a l):=by
 have hk:=NO h
 refine ⟨⟨Nat.le_trans (List.length_filter_le _ _) hk.1,fun r hr => hk.2 r (List.mem_filter.1 hr).1⟩,?_⟩
 show (((keysL l).filter (nzB l)).map (CG l)).length <= lim
 rw [List.length_map]
 exact Nat.le_trans (List.length_filter_le _ _) hk.1
theorem take_snoc {α : Type} {l : List α} {k : Nat} (hk : k < l.length) : l.take (k + 1) = l.take k ++ [l[k]]:=List.take_succ_eq_append_getElem hk
theorem Yh {n : Int} {cols : List Int} (hl : cols.length <= lim) : C2 n cols = some (Lq n cols):=by
 unfold C2 Lq AU
 rcases Nat.lt_or_ge 5 cols.length with h | h
 ·rw [decide_eq_true (by omega),decide_eq_false (by omega),Bool.and_false]; rfl
 ·rw [decide_eq_false (by omega),decide_eq_true (by omega),Bool.and_true,cond_false]
  rw [Bm (fun k => atB cols k fun e => !btw e 0 (IntKind.i64.wrap (n - 1))) hl (fun k hk rec => by
   unfold De
   rw [AF hk,Aj hk,AO hk (At hl),AN hk]
   simp only [cond_true,Ad,HZ]) (fun rec => by unfold De; rw [Az]; rfl)]
  cases (List.range cols.length).any fun k => atB cols k fun e => !btw e 0 (IntKind.i64.wrap (n - 1)) <;> rfl
theorem aw {c : Cnt} {cols : List Int} (h : GL c) (hl : cols.length <= lim) : DK c cols = some (pjC c cols):=by
 unfold DK pjC
 rw [Td h,AE]
 cases hc : GK c with
 | false => rfl
 | true =>
  rw [Bool.not_true,cond_false,Yh hl,AE]
  cases hf : Lq c.1 cols with
  | false => rfl
  | true =>
   obtain ⟨c5,hin⟩:=O5 hc hf
   have hok:=SA hc c5
   obtain ⟨-,f2,f3,-,-,-,f7⟩:=B8 hc
   have hloop:=Ed (body:=BV c cols) (out:=WW (cols.length : Int) (I8 c cols)) (fun k => ((cols.length : Int),keysL ((I8 c cols).take k),(keysL ((I8 c cols).take k)).map (CG ((I8 c cols).take k)),(k : Int))) c.2.1.length (fun k hk rec => by
    obtain ⟨h1,h2,e⟩:=U1 (cols:=cols) hc hk
    have ht:=Uk (a:=(cols.length : Int)) (YR (k:=k) hok) (row:=DD c.2.1[k] cols) (n:=c.2.2[k]) (by simp only [DD,List.length_map]; exact hl) (f7 _ (List.getElem_mem h2))
    have ht' : GA ((cols.length : Int),keysL ((I8 c cols).take k),(keysL ((I8 c cols).take k)).map (CG ((I8 c cols).take k))) (DD c.2.1[k] cols) c.2.2[k] = _:=ht
    simp only [BV]
    rw [AF hk,cond_true,Aj hk,AE,Xg hl (hin _ (List.getElem_mem hk)),AE,Aj h2,AE,ht',AE,AO hk (At h.1.1),take_snoc h1,e]; rfl) (fun rec => by
    simp only [BV]
    rw [Az,cond_false,<- Pz (cols:=cols) hc,List.take_length]; rfl) fz (Ii h.1.1)
   have hloop' : Al (BV c cols) fz ((List.length cols : Int),([] : List (List Int)),([] : List Int),0) = some (WW (cols.length : Int) (I8 c cols)):=hloop
   rw [Bool.not_true,cond_false,hloop',AE]
   show (Ad (Fm ((cols.length : Int),AA 0 (keysL (I8 c cols)),(keysL (I8 c cols)).map (CG (I8 c cols)))) _) = _
   rw [Qa hok,AE]
   simp only [WW]
   rw [Ak (Rj _),Pk]
   have hv:=Td (N3 (a:=(cols.length : Int)) hok)
   show (Ad (AX (KE (cols.length : Int) (I8 c cols))) _) = _
   rw [hv,AE,Bool.true_and,Bool.true_and]
   cases GK (KE (cols.length : Int) (I8 c cols)) <;> rfl
theorem ck {a : Int} {rows : List Row} {counts : List Int} (hn : nrB a rows = ((a,sortB rows),true)) (hl : rows.length = counts.length) (hok : OkL (rows.zip counts)) : Hb a rows counts = some (cond (GK (KE a (rows.zip counts))) (KE a (rows.zip counts),true) ((0,[],[]),false)):=by
 have hfst : (rows.zip counts).map (·.1) = rows:=by rw [<- List.unzip_fst,List.unzip_zip hl]
 have hlz : (rows.zip counts).length = rows.length:=by rw [List.length_zip]; omega
 have hrl:=hok.1
 have hK : sortB rows = keysL (rows.zip counts):=by unfold keysL; rw [hfst]
 have hrow : ∀ k (hk : k < rows.length) (hk2 : k < (rows.zip counts).length) (hk3 : k < counts.length),(rows.zip counts)[k] = (rows[k],counts[k]):=fun k hk hk2 hk3 => List.getElem_zip
 generalize hP : rows.zip counts = P at *
 have hsm:=NO hok
 have hs:=I7 P
 have hsmr : A9 rows:=⟨by unfold lim; omega,fun r hr => by rw [<- hfst] at hr; obtain ⟨p,hp,rfl⟩:=List.mem_map.1 hr; exact (hok.2 p hp).1⟩
 have hKl : (keysL P).length <= 65536:=Nat.le_trans (Wa P) hok.1
 unfold Hb
 rw [ZD hsmr,AE,hn]
 simp only [Bool.not_true,cond_false]
 rw [hK,Ak (YE hsm.1)]
 have hl1:=Ed (body:=FU rows counts ((a,keysL P),true)) (out:=(keysL P).map (CG P)) (fun k => ((keysL P).map (CG (P.take k)),(k : Int))) rows.length (fun k hk rec => by
  have hk2 : k < P.length:=by omega
  have hPl : P.length <= 65536:=hok.1
  have hk3 : k < counts.length:=by omega
  have hrk:=hrow k hk hk2 hk3
  obtain ⟨j,hj,e,h1,h2⟩:=PE (r:=(a,keysL P)) (row:=rows[k]) hs hsm
  have hm : rows[k] ∈ keysL P:=H2.2 ⟨P[k],List.getElem_mem hk2,by rw [hrk]⟩
  obtain ⟨hj',ej⟩:=at_k hs h1 h2 hm
  have hC : ((keysL P).map (CG (P.take k))).length = (keysL P).length:=List.length_map _
  have eg : AK ((keysL P).map (CG (P.take k))) (j : Int) = some (CG (P.take k) (keysL P)[j]):=by rw [Aj (by rw [hC]; exact hj'),List.getElem_map]
  have hb:=RD (keysL P)[j] (l:=P.take k) fun p hp => (hok.2 p (List.mem_of_mem_take hp)).2
  have hn:=(hok.2 _ (List.getElem_mem hk2)).2
  rw [hrk] at hn
  rw [List.length_take] at hb
  have es:=Vh (SJ hs) hj' (P.take k) counts[k]
  have ea : P.take k ++ [((keysL P)[j],counts[k])] = P.take (k + 1):=by rw [take_snoc hk2,hrk,ej]
  rw [ea] at es
  simp only [FU]
  rw [AF hk,cond_true,Aj hk,AE,e,AE,eg,AE,Aj hk3,AE,AE,wrap_in (by simp only at hn; omega),AO hk (At hsmr.1)]
  unfold It
  simp only
  rw [Int.toNat_natCast,es]) (fun rec => by
  simp only [FU]
  rw [Az,cond_false,<- hlz,List.take_length]) fz (Ii hsmr.1)
 have hz : List.replicate (Int.toNat (List.length (keysL P) : Int)) (0 : Int) = (keysL P).map (CG (P.take 0)):=by
  rw [Int.toNat_natCast]
  exact (List.eq_replicate_iff.2 ⟨List.length_map _,fun x hx => by obtain ⟨z,-,rfl⟩:=List.mem_map.1 hx; rfl⟩).symm
 have hl1' : Al (FU rows counts ((a,keysL P),true)) fz ((List.replicate (Int.toNat (List.length (keysL P) : Int)) (0 : Int)),0) = some ((keysL P).map (CG P)):=by rw [hz]; exact hl1
 rw [hl1',AE]
 have hC : ((keysL P).map (CG P)).length = (keysL P).length:=List.length_map _
 have hE : (AA 0 (keysL P)).length = (keysL P).length:=Ib 0 _
 have hl2:=Ed (body:=EN ((a,keysL P),true) ((keysL P).map (CG P))) (out:=((AA 0 (keysL P)).filter (fun p => nzB P p.2),((keysL P).filter (nzB P)).map (CG P))) (fun k => (((AA 0 (keysL P)).take k).filter (fun p => nzB P p.2),(((keysL P).take k).filter (nzB P)).map (CG P),(k : Int))) (keysL P).length (fun k hk rec => by
  have hkE : k < (AA 0 (keysL P)).length:=by omega
  have hEk : (AA 0 (keysL P))[k] = (k,(keysL P)[k]):=by
   have:=Lr (keysL P) 0 k
   rw [List.getElem?_eq_getElem hkE,List.getElem?_eq_getElem hk] at this
   simpa using this
  have hW : IntKind.i64.wrap ((k : Int) + 1) = ((k + 1 : Nat) : Int):=AO hk (At hsm.1)
  have f1:=I2 hkE (by rw [hE]; exact hsm.1) (fun p => nzB P p.2) (k,(keysL P)[k])
  have f2:=I2 hk hsm.1 (nzB P) (keysL P)[k]
  simp only [EN]
  rw [decide_eq_true (by rw [hE]; omega),cond_true,Aj (by rw [hC]; exact hk),AE,Kc hkE,Kc hk,List.getElem_map,hEk]
  cases hz : nzB P (keysL P)[k] with
  | true =>
   have hz' : (CG P (keysL P)[k] != 0) = true:=hz
   rw [hz',cond_true,Aj hkE,hEk,AE,Ak f1,AE,Ak (by rw [List.length_map]; exact f2)]
   simp only [FV,hz,cond_true,List.map_append,List.map_cons,List.map_nil,hW]
  | false =>
   have hz' : (CG P (keysL P)[k] != 0) = false:=hz
   rw [hz']
   simp only [cond_false,FV,hz,List.append_nil,hW]) (fun rec => by
  simp only [EN]
  rw [decide_eq_false (by rw [hE]; omega),cond_false,List.take_length,List.take_of_length_le (by omega)]) fz (Ii hsm.1)
 have hl2' : Al (EN ((a,keysL P),true) ((keysL P).map (CG P))) fz (([] : List (Nat × List Int)),([] : List Int),0) = some ((AA 0 (keysL P)).filter (fun p => nzB P p.2),((keysL P).filter (nzB P)).map (CG P)):=hl2
 rw [hl2',AE]
 simp only
 rw [Ak (Rj P),Pk]
 have hv:=WF (N3 (a:=a) hok)
 show (Ad (Bh (KE a P)) _) = _
 rw [hv,AE]
 cases GK (KE a P) <;> rfl
theorem Xv {r cols : List Int} (hv : Lo r = true) (h : ∀ v ∈ cols,0 <= v ∧ v < (r.length : Int)) : Lo (DD r cols) = true:=TK fun x hx => by
 unfold DD at hx
 obtain ⟨v,hv',rfl⟩:=List.mem_map.1 hx
 have h1:=h v hv'
 obtain ⟨n,rfl⟩:=Int.eq_ofNat_of_zero_le h1.1
 rw [Gb (by omega)]
 exact P2 hv (by omega)
theorem XF {c : Cnt} {cols : List Int} (h : GL c) (hl : cols.length <= lim) : DT c cols = some (pjC c cols):=by
 unfold DT pjC
 rw [Lp (fun k => atB cols k fun e => !btw e 0 (IntKind.i64.wrap (c.1 - 1))) ((((0,[],[]),false)) : Cnt × Bool) hl (fun k hk rec => by
  unfold Ea
  rw [AF hk,Aj hk,AO hk (At hl),AN hk]
  simp only [cond_true,Ad,KS]) (fun rec => by unfold Ea; rw [Az]; rfl),AE]
 have hcB : Lq c.1 cols = ((!(List.range cols.length).any fun k => atB cols k fun e => !btw e 0 (IntKind.i64.wrap (c.1 - 1))) && decide ((cols.length : Int) <= 5)):=rfl
 cases hb : (List.range cols.length).any fun k => atB cols k fun e => !btw e 0 (IntKind.i64.wrap (c.1 - 1)) with
 | true => rw [hcB,hb]; simp
 | false =>
  simp only [cond_false]
  rw [WF h,AE]
  cases hc : GK c with
  | false => simp
  | true =>
   rw [Bool.not_true,cond_false]
   rcases Nat.lt_or_ge 5 cols.length with h5 | h5
   ·rw [hcB,decide_eq_true (by omega),decide_eq_false (by omega)]; simp
   ·have hf : Lq c.1 cols = true:=by rw [hcB,hb,decide_eq_true (by omega)]; rfl
    rw [decide_eq_false (by omega),cond_false,hf]
    obtain ⟨c5,hin⟩:=O5 hc hf
    have hok:=SA hc c5
    obtain ⟨-,f2,f3,f4,-,-,f7⟩:=B8 hc
    have hml:=Fu (a:=c.2.1) (h:=fun r => DD r cols) (B:=CF c cols) h.1.1 (fun k hk rec => by
     simp only [CF]
     rw [AF hk,cond_true,Aj hk,AE,XB hl (hin _ (List.getElem_mem hk)),AE,Ak (by simp only [List.length_singleton,List.length_map,List.length_take]; have:=h.1.1; omega),AO hk (At h.1.1)]) (fun rec y => by simp only [CF]; rw [Az,cond_false])
    rw [hml,AE]
    have hnr : nrB (cols.length : Int) (c.2.1.map fun r => DD r cols) = (((cols.length : Int),sortB (c.2.1.map fun r => DD r cols)),true):=bJ (by unfold btw; simp; omega) (by rw [List.length_map]; exact f3) (fun r hr => by
     obtain ⟨x,hx,rfl⟩:=List.mem_map.1 hr
     exact ⟨by simp only [DD,List.length_map],Xv (f4 x hx).2 (hin x hx)⟩)
    rw [ck hnr (by rw [List.length_map]; exact f2) hok,AE,Bool.true_and,Bool.true_and]
    show some (((cond (GK (KE (cols.length : Int) (I8 c cols))) (KE (cols.length : Int) (I8 c cols),true) ((0,[],[]),false)) : Cnt × Bool)) = _
    rfl
end Go.Proofs.YtklcofndjkjldaaGreat
