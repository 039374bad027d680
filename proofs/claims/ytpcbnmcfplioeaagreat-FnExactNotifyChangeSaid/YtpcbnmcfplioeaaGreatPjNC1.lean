/-
 Counted relations: validity, projection; the reference and the program give the same. On the printed functions; conditions: lengths.
-/
import Derived.Test.YtpcbnmcfplioeaaGreatApNC1
import Derived.Test.YtpcbnmcfplioeaaGreatAbNC1
import Derived.Test.YtpcbnmcfplioeaaGreatEnNC1
namespace Go.Proofs.YtpcbnmcfplioeaaGreat
open Go.RowKit
set_option linter.unusedVariables false
set_option linter.unusedSimpArgs false
abbrev Pr:=Row × Int
def Fp : List Pr -> Row -> Int
 | [],_ => 0
 | p :: l,z => (if p.1 = z then p.2 else 0) + Fp l z
theorem Pp (z : Row) (p : Pr) : ∀ l : List Pr,Fp (l ++ [p]) z = Fp l z + if p.1 = z then p.2 else 0
 | [] => by simp [Fp]
 | q :: l => by rw [List.cons_append,Fp,Fp,Pp z p l]; omega
theorem SD {z : Row} : ∀ {l : List Pr},(∀ p ∈ l,p.1 ≠ z) -> Fp l z = 0
 | [],_ => rfl
 | p :: l,h => by rw [Fp,if_neg (h p (List.mem_cons_self ..)),SD fun q hq => h q (List.mem_cons_of_mem _ hq)]; rfl
def OkL (l : List Pr) : Prop:=l.length <= 65536 ∧ ∀ p ∈ l,p.1.length <= lim ∧ -1000000 <= p.2 ∧ p.2 <= 1000000
theorem UM (z : Row) : ∀ {l : List Pr},(∀ p ∈ l,-1000000 <= p.2 ∧ p.2 <= 1000000) -> -(1000000 * (l.length : Int)) <= Fp l z ∧ Fp l z <= 1000000 * (l.length : Int)
 | [],_ => by simp [Fp]
 | p :: l,h => by
  have h1:=h p (List.mem_cons_self ..)
  have h2:=UM z fun q hq => h q (List.mem_cons_of_mem _ hq)
  rw [Fp,List.length_cons]
  split <;> omega
def keysL (l : List Pr) : List Row:=sortB (l.map (·.1))
def ba (a : Int) (l : List Pr) : Cnt:=(a,keysL l,(keysL l).map (Fp l))
def nzB (l : List Pr) (z : Row) : Bool:=Fp l z != 0
def Qz (a : Int) (l : List Pr) : Cnt:=(a,(keysL l).filter (nzB l),((keysL l).filter (nzB l)).map (Fp l))
theorem Kd {l : List Pr} {z : Row} : z ∈ keysL l ↔ ∃ p ∈ l,p.1 = z:=by unfold keysL; rw [FE,List.mem_map]
theorem ZZ (l : List Pr) : (keysL l).length <= l.length:=by have:=Hj (l.map (·.1)); rw [List.length_map] at this; exact this
theorem Nw (l : List Pr) : Srt (keysL l):=HT _
theorem RU {l : List Pr} (h : OkL l) : Bl (keysL l):=⟨by have:=Hj (l.map (·.1)); rw [List.length_map] at this; have:=h.1; unfold keysL lim; omega,fun r hr => by
 obtain ⟨p,hp,rfl⟩:=Kd.1 hr
 exact (h.2 p hp).1⟩
theorem YO {l : List Row} (h : Srt l) : l.Nodup:=by
 rw [List.nodup_iff_pairwise_ne]
 exact h.imp fun h e => by subst e; rw [KZ] at h; omega
theorem at_k {rows : List Row} {row : Row} (hs : Srt rows) {k : Nat} (h1 : ∀ i (hi : i < rows.length),i < k -> ET rows[i] row < 0) (h2 : ∀ i (hi : i < rows.length),k <= i -> ¬ ET rows[i] row < 0) (hm : row ∈ rows) : ∃ hk : k < rows.length,rows[k] = row:=by
 obtain ⟨j,hj,rfl⟩:=List.mem_iff_getElem.1 hm
 have hkj : ¬ j < k:=fun h3 => by have:=h1 j hj h3; rw [KZ] at this; omega
 have hlt : k < rows.length:=by omega
 rcases Nat.lt_or_ge k j with h3 | h3
 ·exact absurd (List.pairwise_iff_getElem.1 hs k j hlt hj h3) (h2 k hlt (Nat.le_refl _))
 ·have : k = j:=by omega
  subst this
  exact ⟨hj,rfl⟩
theorem YF {K : List Row} (hK : K.Nodup) {j : Nat} (hj : j < K.length) (l : List Pr) (n : Int) : (K.map (Fp l)).set j (Fp l K[j] + n) = K.map (Fp (l ++ [(K[j],n)])):=by
 refine List.ext_getElem (by simp) fun i h1 h2 => ?_
 rw [List.getElem_set,List.getElem_map,List.getElem_map,Pp]
 have hi : i < K.length:=by rw [List.length_map] at h2; exact h2
 by_cases h : j = i
 ·subst h; rw [if_pos rfl,if_pos rfl]
 ·rw [if_neg h,if_neg (fun e => h ((List.getElem_inj hK).1 e))]; omega
theorem ZY {l : List Pr} {row : Row} (n : Int) (h : row ∈ keysL l) : keysL (l ++ [(row,n)]) = keysL l:=by
 refine (M0 (Nw l) fun z => ?_).symm
 rw [Kd,List.mem_map]
 constructor
 ·rintro ⟨p,hp,rfl⟩; exact ⟨p,List.mem_append_left _ hp,rfl⟩
 ·rintro ⟨p,hp,rfl⟩
  rcases List.mem_append.1 hp with hp | hp
  ·exact ⟨p,hp,rfl⟩
  ·rw [List.mem_singleton] at hp; subst hp; exact Kd.1 h
theorem Z0 {l : List Pr} {row : Row} (n : Int) (h : row ∉ keysL l) {k : Nat} (hk : k <= (keysL l).length) (h1 : ∀ i (hi : i < (keysL l).length),i < k -> ET (keysL l)[i] row < 0) (h2 : ∀ i (hi : i < (keysL l).length),k <= i -> ¬ ET (keysL l)[i] row < 0) :
  keysL (l ++ [(row,n)]) = (keysL l).take k ++ [row] ++ (keysL l).drop k ∧ (keysL (l ++ [(row,n)])).map (Fp (l ++ [(row,n)])) = ((keysL l).map (Fp l)).take k ++ [n] ++ ((keysL l).map (Fp l)).drop k:=by
 have hs:=Nw l
 have e1 : keysL (l ++ [(row,n)]) = (keysL l).take k ++ [row] ++ (keysL l).drop k:=by
  refine (M0 ?_ fun z => ?_).symm
  ·unfold Srt
   rw [List.append_assoc,List.pairwise_append]
   refine ⟨hs.sublist (List.take_sublist _ _),?_,fun a ha b hb => ?_⟩
   ·rw [List.singleton_append,List.pairwise_cons]
    refine ⟨fun b hb => ?_,hs.sublist (List.drop_sublist _ _)⟩
    obtain ⟨i,hi,rfl⟩:=List.mem_iff_getElem.1 hb
    rw [List.length_drop] at hi
    rw [List.getElem_drop]
    have h3:=h2 (k + i) (by omega) (by omega)
    have h4:=cmp_neg (keysL l)[k + i] row
    rcases Int.lt_trichotomy (ET (keysL l)[k + i] row) 0 with h5 | h5 | h5
    ·omega
    ·exact absurd (List.getElem_mem _) (by rw [K0 h5]; exact h)
    ·omega
   ·obtain ⟨i,hi,rfl⟩:=List.mem_iff_getElem.1 ha
    rw [List.length_take] at hi
    rw [List.getElem_take]
    have h3:=h1 i (by omega) (by omega)
    rcases List.mem_append.1 hb with hb | hb
    ·rw [List.mem_singleton] at hb; subst hb; exact h3
    ·obtain ⟨j,hj,rfl⟩:=List.mem_iff_getElem.1 hb
     rw [List.length_drop] at hj
     rw [List.getElem_drop]
     exact List.pairwise_iff_getElem.1 hs _ _ _ _ (by omega)
  ·rw [List.mem_append,List.mem_append,List.mem_singleton,List.mem_map]
   constructor
   ·rintro ((h3 | rfl) | h3)
    ·obtain ⟨p,hp,e⟩:=Kd.1 (List.mem_of_mem_take h3); exact ⟨p,List.mem_append_left _ hp,e⟩
    ·exact ⟨_,List.mem_append_right _ (List.mem_singleton.2 rfl),rfl⟩
    ·obtain ⟨p,hp,e⟩:=Kd.1 (List.mem_of_mem_drop h3); exact ⟨p,List.mem_append_left _ hp,e⟩
   ·rintro ⟨p,hp,rfl⟩
    rcases List.mem_append.1 hp with hp | hp
    ·have h3 : p.1 ∈ keysL l:=Kd.2 ⟨p,hp,rfl⟩
     rw [<- List.take_append_drop k (keysL l),List.mem_append] at h3
     exact h3.elim (fun h => .inl (.inl h)) .inr
    ·rw [List.mem_singleton] at hp; subst hp; exact .inl (.inr rfl)
 have h0 : Fp l row = 0:=SD fun p hp e => h (Kd.2 ⟨p,hp,e⟩)
 have hne : ∀ z ∈ keysL l,Fp (l ++ [(row,n)]) z = Fp l z:=fun z hz => by
  rw [Pp,if_neg (fun e => h (by rw [show row = z from e]; exact hz))]; omega
 refine ⟨e1,?_⟩
 rw [e1,List.map_append,List.map_append,List.map_singleton,<- List.map_take,<- List.map_drop,Pp,if_pos rfl,h0,Int.zero_add]
 rw [List.map_congr_left fun z hz => hne z (List.mem_of_mem_take hz),List.map_congr_left fun z hz => hne z (List.mem_of_mem_drop hz)]
theorem dW {l : List Pr} {k : Nat} (h : OkL l) : OkL (l.take k):=⟨by rw [List.length_take]; have:=h.1; omega,fun p hp => h.2 p (List.mem_of_mem_take hp)⟩
theorem XH {a : Int} {l : List Pr} {row : Row} {n : Int} (h : OkL l) (hrow : row.length <= lim) (hn : -1000000 <= n ∧ n <= 1000000) : GU (ba a l) row n = some (ba a (l ++ [(row,n)])):=by
 have hs:=Nw l
 have hsm:=RU h
 have hb:=UM row fun p hp => (h.2 p hp).2
 have hl:=h.1
 obtain ⟨k,hk,e,h1,h2⟩:=Vk (row:=row) hs hsm
 have hKl : (keysL l).length <= 65536:=by have:=Hj (l.map (·.1)); rw [List.length_map] at this; unfold keysL; omega
 show GU (a,keysL l,(keysL l).map (Fp l)) row n = some (a,keysL (l ++ [(row,n)]),(keysL (l ++ [(row,n)])).map (Fp (l ++ [(row,n)])))
 unfold GU
 dsimp only
 rw [e,AR]
 cases hc : (keysL l).contains row with
 | true =>
  have hm : row ∈ keysL l:=List.contains_iff_mem.1 hc
  obtain ⟨hk',ek⟩:=at_k hs h1 h2 hm
  simp only [cond_true]
  have eg : AO ((keysL l).map (Fp l)) (k : Int) = some (Fp l row):=by
   rw [Am (by rw [List.length_map]; exact hk'),List.getElem_map,ek]
  rw [Ap (show 0 < ((keysL l).map (Fp l)).length by rw [List.length_map]; omega),eg,AR,AR,wrap_in (by omega)]
  have es:=YF (YO hs) hk' l n
  rw [ek] at es
  show some (a,keysL l,((keysL l).map (Fp l)).set (Int.toNat (k : Int)) (Fp l row + n)) = some (a,keysL (l ++ [(row,n)]),(keysL (l ++ [(row,n)])).map (Fp (l ++ [(row,n)])))
  rw [Int.toNat_natCast,es,ZY n hm]
 | false =>
  have hm : row ∉ keysL l:=fun hm => by rw [List.contains_iff_mem.2 hm] at hc; cases hc
  obtain ⟨e1,e2⟩:=Z0 n hm hk h1 h2
  have hE : (AC 0 (keysL l)).length = (keysL l).length:=Ix 0 _
  simp only [cond_false,List.nil_append]
  have t1 : Ey (AC 0 (keysL l)) 0 (k : Int) = (AC 0 (keysL l)).take k:=by simp [Ey]
  have t2 : Ey (AC 0 (keysL l)) (k : Int) ((List.length (AC 0 (keysL l)) : Nat) : Int) = (AC 0 (keysL l)).drop k:=by unfold Ey; rw [Int.toNat_natCast,Int.toNat_natCast,List.take_length]
  have hC : ((keysL l).map (Fp l)).length = (keysL l).length:=List.length_map _
  have t3 : Ey ((keysL l).map (Fp l)) 0 (k : Int) = ((keysL l).map (Fp l)).take k:=by unfold Ey; rw [Int.toNat_natCast]; rfl
  have t4 : Ey ((keysL l).map (Fp l)) (k : Int) ((List.length ((keysL l).map (Fp l)) : Nat) : Int) = ((keysL l).map (Fp l)).drop k:=by unfold Ey; rw [Int.toNat_natCast,Int.toNat_natCast,List.take_length]
  obtain ⟨ok,gm⟩:=Yb (keysL l) k [row]
  have hlt : (List.take k (AC 0 (keysL l))).length = k:=by rw [List.length_take,hE]; omega
  have hld : (List.drop k (AC 0 (keysL l))).length = (keysL l).length - k:=by rw [List.length_drop,hE]
  have hlt' : (List.take k ((keysL l).map (Fp l))).length = k:=by rw [List.length_take,hC]; omega
  have hld' : (List.drop k ((keysL l).map (Fp l))).length = (keysL l).length - k:=by rw [List.length_drop,hC]
  rw [t1,t2,t3,t4]
  rw [Ap (by rw [hE]; omega),Ap (by rw [hlt,List.length_nil]; unfold lim; omega),Lc hrow,AR,Ap (by rw [<- Qc,<- Wt,hlt,List.length_singleton]; unfold lim; omega)]
  rw [Ap (show (0 : Int) <= (k : Int) ∧ (k : Int) <= (List.length (AC 0 (keysL l)) : Int) ∧ (List.length (AC 0 (keysL l)) : Int) <= (List.length (AC 0 (keysL l)) : Int) by rw [hE]; omega)]
  rw [Ap (by rw [List.length_append,<- Qc,<- Qc,<- Wt,hlt,hld,List.length_singleton]; unfold lim; omega),Ap ok,gm]
  rw [Ap (show (0 : Int) <= 0 ∧ 0 <= (k : Int) ∧ (k : Int) <= (List.length ((keysL l).map (Fp l)) : Int) by rw [hC]; omega),Lc (by rw [hlt']; unfold lim; omega),AR,Ap (by rw [hlt',List.length_singleton]; unfold lim; omega)]
  rw [Ap (show (0 : Int) <= (k : Int) ∧ (k : Int) <= (List.length ((keysL l).map (Fp l)) : Int) ∧ (List.length ((keysL l).map (Fp l)) : Int) <= (List.length ((keysL l).map (Fp l)) : Int) by rw [hC]; omega)]
  rw [Ap (by rw [List.length_append,hlt',hld',List.length_singleton]; unfold lim; omega)]
  show some (a,_,_) = some (a,keysL (l ++ [(row,n)]),(keysL (l ++ [(row,n)])).map (Fp (l ++ [(row,n)])))
  rw [e2,e1]
theorem Ta {a : Int} {l : List Pr} (h : OkL l) : Fu (a,AC 0 (keysL l),(keysL l).map (Fp l)) = some (a,(AC 0 (keysL l)).filter (fun p => nzB l p.2),((keysL l).filter (nzB l)).map (Fp l)):=by
 have hKl:=(RU h).1
 have hE : (AC 0 (keysL l)).length = (keysL l).length:=Ix 0 _
 have hC : ((keysL l).map (Fp l)).length = (keysL l).length:=List.length_map _
 have:=DN (body:=D3 (a,AC 0 (keysL l),(keysL l).map (Fp l))) (out:=((AC 0 (keysL l)).filter (fun p => nzB l p.2),((keysL l).filter (nzB l)).map (Fp l))) (fun k => (((AC 0 (keysL l)).take k).filter (fun p => nzB l p.2),(((keysL l).take k).filter (nzB l)).map (Fp l),(k : Int))) (keysL l).length (fun k hk rec => by
  have hkE : k < (AC 0 (keysL l)).length:=by omega
  have hEk : (AC 0 (keysL l))[k] = (k,(keysL l)[k]):=by
   have:=Nm (keysL l) 0 k
   rw [List.getElem?_eq_getElem hkE,List.getElem?_eq_getElem hk] at this
   simpa using this
  have hW : IntKind.i64.wrap ((k : Int) + 1) = ((k + 1 : Nat) : Int):=AS hk (AA hKl)
  simp only [D3]
  rw [decide_eq_true (by rw [hC]; omega),cond_true,Am (by rw [hC]; exact hk),AR,LJ hkE,LJ hk,List.getElem_map,hEk]
  have f1:=J8 hkE (by omega) (fun p => nzB l p.2) (k,(keysL l)[k])
  have f2:=J8 hk hKl (nzB l) (keysL l)[k]
  cases hz : nzB l (keysL l)[k] with
  | true =>
   have hz' : (Fp l (keysL l)[k] != 0) = true:=hz
   rw [hz',cond_true,Am hkE,hEk,AR,Ap f1,Ap (by rw [List.length_map]; exact f2)]
   simp only [Fe,hz,cond_true,List.map_append,List.map_cons,List.map_nil,hW]
  | false =>
   have hz' : (Fp l (keysL l)[k] != 0) = false:=hz
   rw [hz']
   simp only [cond_false,Fe,hz,List.append_nil,hW]) (fun rec => by
  simp only [D3]
  rw [decide_eq_false (by rw [hC]; omega),cond_false,List.take_length,List.take_of_length_le (by omega)]) fz (HP hKl)
 unfold Fu
 have e0 : Ao (D3 (a,AC 0 (keysL l),(keysL l).map (Fp l))) fz (([] : List (Nat × List Int)),([] : List Int),0) = some ((AC 0 (keysL l)).filter (fun p => nzB l p.2),((keysL l).filter (nzB l)).map (Fp l)):=this
 rw [e0]; rfl
theorem RT (l : List Pr) : List.map getM (H4 ((AC 0 (keysL l)).filter (fun p => nzB l p.2))) = (keysL l).filter (nzB l):=by
 unfold H4
 rw [List.map_map]
 have e1 : (getM ∘ Sum.inl : Nat × Row -> Row) = fun p => p.2:=rfl
 rw [e1]
 have e2:=List.filter_map (p:=nzB l) (f:=fun p : Nat × Row => p.2) (l:=AC 0 (keysL l))
 have e3 : (AC 0 (keysL l)).map (fun p => p.2) = keysL l:=Iy 0 _
 rw [e3] at e2
 exact e2.symm
theorem Ut (l : List Pr) : okJ (keysL l) (H4 ((AC 0 (keysL l)).filter (fun p => nzB l p.2))) [] = true:=by
 refine Ux _ _ ?_ (by simp) (fun p hp => ?_)
 ·refine List.Nodup.sublist (List.Sublist.map _ List.filter_sublist) ?_
  rw [Nn]; exact List.nodup_range'
 ·have:=(Pb 0 _ p (List.mem_filter.1 hp).1).2
  simpa using this
def H2 (c : Cnt) : Bool:=((List.length c.2.1 : Int) == (List.length c.2.2 : Int)) && (FZ (c.1,c.2.1) && !A1 c.2.2 fun _ n => (n == 0) || !btw n (-1000000) 1000000)
theorem aC {c : Cnt} (h : H1 c) : Bg c = some (H2 c):=by
 unfold Bg H2 A1 bne
 cases (List.length c.2.1 : Int) == (List.length c.2.2 : Int) with
 | false => rfl
 | true =>
  simp only [Bool.not_true,cond_false,Bool.true_and]
  rw [QY (r:=(c.1,c.2.1)) h.1,AR]
  cases FZ (c.1,c.2.1) with
  | false => rfl
  | true =>
   simp only [Bool.not_true,cond_false,Bool.true_and]
   rw [BS (fun k => atB c.2.2 k fun n => (n == 0) || !btw n (-1000000) 1000000) h.2 (fun k hk rec => by
    unfold Em
    rw [AL hk,Am hk,AS hk (AA h.2),AY hk]
    simp only [cond_true,Ad,NH]
    cases c.2.2[k] == 0 <;> cases btw c.2.2[k] (-1000000) 1000000 <;> rfl) (fun rec => by unfold Em; rw [AG]; rfl)]
   cases (List.range c.2.2.length).any fun k => atB c.2.2 k fun n => (n == 0) || !btw n (-1000000) 1000000 <;> rfl
theorem gR {a : Int} {l : List Row} (h : Bl l) : EV a l = some (FZ (a,l)):=by
 have:=OQ (r:=(a,l)) h
 unfold AF at this
 cases hx : EV a l with
 | none => rw [hx] at this; cases this
 | some b => rw [hx] at this; exact this
theorem XD {c : Cnt} (h : H1 c) : A2 c = some (H2 c):=by
 unfold A2 H2 A1
 rw [gR h.1,AR]
 have hsw : ((List.length c.2.2 : Int) != (List.length c.2.1 : Int)) = !((List.length c.2.1 : Int) == (List.length c.2.2 : Int)):=by
  rw [bne,Bool.eq_iff_iff]; simp only [Bool.not_eq_true',beq_eq_false_iff_ne,ne_eq]; exact ⟨fun h e => h e.symm,fun h e => h e.symm⟩
 cases FZ (c.1,c.2.1) with
 | false => simp
 | true =>
  simp only [Bool.not_true,cond_false,Bool.true_and,hsw]
  cases (List.length c.2.1 : Int) == (List.length c.2.2 : Int) with
  | false => rfl
  | true =>
   simp only [Bool.not_true,cond_false,Bool.true_and]
   rw [BS (fun k => atB c.2.2 k fun n => (n == 0) || !btw n (-1000000) 1000000) h.2 (fun k hk rec => by
    unfold Ei
    rw [AL hk,Am hk,AS hk (AA h.2),AY hk]
    simp only [cond_true,Ad,I9]
    cases c.2.2[k] == 0 <;> cases btw c.2.2[k] (-1000000) 1000000 <;> rfl) (fun rec => by unfold Ei; rw [AG]; rfl)]
   cases (List.range c.2.2.length).any fun k => atB c.2.2 k fun n => (n == 0) || !btw n (-1000000) 1000000 <;> rfl
theorem Db {c : Cnt} (h : H2 c = true) : FZ (c.1,c.2.1) = true ∧ c.2.1.length = c.2.2.length ∧ c.2.1.length <= 4000 ∧ (∀ x ∈ c.2.1,(x.length : Int) = c.1 ∧ NY x = true) ∧ 0 <= c.1 ∧ c.1 <= 5 ∧ ∀ n ∈ c.2.2,-1000000 <= n ∧ n <= 1000000:=by
 unfold H2 at h
 simp only [Bool.and_eq_true,Bool.not_eq_true',beq_iff_eq] at h
 obtain ⟨h1,h2,h3⟩:=h
 obtain ⟨r1,r2,r3,r4⟩:=NF h2
 refine ⟨h2,by omega,r3,r4,r1,r2,fun n hn => ?_⟩
 have:=KA h3 hn
 simp only [Bool.or_eq_false_iff,Bool.not_eq_false'] at this
 unfold btw at this
 simpa using this.2
def PO (n : Int) (cols : List Int) : Bool:=(!A1 cols fun _ e => !btw e 0 (IntKind.i64.wrap (n - 1))) && decide ((cols.length : Int) <= 5)
def NU (c : Cnt) (cols : List Int) : List Pr:=(c.2.1.map fun r => FV r cols).zip c.2.2
def pjC (c : Cnt) (cols : List Int) : Cnt × Bool:=cond (H2 c && (PO c.1 cols && H2 (Qz (cols.length : Int) (NU c cols)))) (Qz (cols.length : Int) (NU c cols),true) ((0,[],[]),false)
theorem T9 {c : Cnt} {cols : List Int} (hc : H2 c = true) (h : PO c.1 cols = true) : cols.length <= 5 ∧ ∀ r ∈ c.2.1,∀ v ∈ cols,0 <= v ∧ v < (r.length : Int):=by
 obtain ⟨-,-,-,f4,f5,f6,-⟩:=Db hc
 unfold PO at h
 simp only [Bool.and_eq_true,Bool.not_eq_true',decide_eq_true_eq] at h
 refine ⟨by omega,fun r hr v hv => ?_⟩
 have:=KA h.1 hv
 rw [Bool.not_eq_false',wrap_in (by omega)] at this
 unfold btw at this
 simp only [Bool.and_eq_true,decide_eq_true_eq] at this
 have:=(f4 r hr).1
 omega
theorem bU {c : Cnt} {cols : List Int} (hc : H2 c = true) {k : Nat} (hk : k < c.2.1.length) : ∃ h : k < (NU c cols).length,∃ h2 : k < c.2.2.length,(NU c cols)[k] = (FV c.2.1[k] cols,c.2.2[k]):=by
 have f2:=(Db hc).2.1
 have h : k < (NU c cols).length:=by unfold NU; rw [List.length_zip,List.length_map]; omega
 refine ⟨h,by omega,?_⟩
 have e : (NU c cols)[k]'h = ((c.2.1.map fun r => FV r cols)[k]'(by rw [List.length_map]; exact hk),c.2.2[k]'(by omega)):=List.getElem_zip
 rw [e,List.getElem_map]
theorem UG {c : Cnt} {cols : List Int} (hc : H2 c = true) : (NU c cols).length = c.2.1.length:=by
 have f2:=(Db hc).2.1
 unfold NU; rw [List.length_zip,List.length_map]; omega
theorem Yr {c : Cnt} {cols : List Int} (hc : H2 c = true) (hl : cols.length <= 5) : OkL (NU c cols):=by
 obtain ⟨-,f2,f3,-,-,-,f7⟩:=Db hc
 refine ⟨by rw [UG hc]; omega,fun p hp => ?_⟩
 obtain ⟨k,hk,rfl⟩:=List.mem_iff_getElem.1 hp
 rw [UG hc] at hk
 obtain ⟨h1,h2,e⟩:=bU (cols:=cols) hc hk
 rw [e]
 exact ⟨by simp only [FV,List.length_map]; unfold lim; omega,f7 _ (List.getElem_mem h2)⟩
theorem Qr {a : Int} {l : List Pr} (h : OkL l) : H1 (Qz a l):=by
 have hk:=RU h
 refine ⟨⟨Nat.le_trans (List.length_filter_le _ _) hk.1,fun r hr => hk.2 r (List.mem_filter.1 hr).1⟩,?_⟩
 show (((keysL l).filter (nzB l)).map (Fp l)).length <= lim
 rw [List.length_map]
 exact Nat.le_trans (List.length_filter_le _ _) hk.1
theorem take_snoc {α : Type} {l : List α} {k : Nat} (hk : k < l.length) : l.take (k + 1) = l.take k ++ [l[k]]:=List.take_succ_eq_append_getElem hk
theorem da {n : Int} {cols : List Int} (hl : cols.length <= lim) : Dg n cols = some (PO n cols):=by
 unfold Dg PO A1
 rcases Nat.lt_or_ge 5 cols.length with h | h
 ·rw [decide_eq_true (by omega),decide_eq_false (by omega),Bool.and_false]; rfl
 ·rw [decide_eq_false (by omega),decide_eq_true (by omega),Bool.and_true,cond_false]
  rw [BS (fun k => atB cols k fun e => !btw e 0 (IntKind.i64.wrap (n - 1))) hl (fun k hk rec => by
   unfold Dr
   rw [AL hk,Am hk,AS hk (AA hl),AY hk]
   simp only [cond_true,Ad,I9]) (fun rec => by unfold Dr; rw [AG]; rfl)]
  cases (List.range cols.length).any fun k => atB cols k fun e => !btw e 0 (IntKind.i64.wrap (n - 1)) <;> rfl
theorem gP {c : Cnt} {cols : List Int} (h : H1 c) (hl : cols.length <= lim) : D2 c cols = some (pjC c cols):=by
 unfold D2 pjC
 rw [XD h,AR]
 cases hc : H2 c with
 | false => rfl
 | true =>
  rw [Bool.not_true,cond_false,da hl,AR]
  cases hf : PO c.1 cols with
  | false => rfl
  | true =>
   obtain ⟨c5,hin⟩:=T9 hc hf
   have hok:=Yr hc c5
   obtain ⟨-,f2,f3,-,-,-,f7⟩:=Db hc
   have hloop:=DN (body:=BV c cols) (out:=ba (cols.length : Int) (NU c cols)) (fun k => ((cols.length : Int),keysL ((NU c cols).take k),(keysL ((NU c cols).take k)).map (Fp ((NU c cols).take k)),(k : Int))) c.2.1.length (fun k hk rec => by
    obtain ⟨h1,h2,e⟩:=bU (cols:=cols) hc hk
    have ht:=XH (a:=(cols.length : Int)) (dW (k:=k) hok) (row:=FV c.2.1[k] cols) (n:=c.2.2[k]) (by simp only [FV,List.length_map]; exact hl) (f7 _ (List.getElem_mem h2))
    have ht' : GU ((cols.length : Int),keysL ((NU c cols).take k),(keysL ((NU c cols).take k)).map (Fp ((NU c cols).take k))) (FV c.2.1[k] cols) c.2.2[k] = _:=ht
    simp only [BV]
    rw [AL hk,cond_true,Am hk,AR,bB hl (hin _ (List.getElem_mem hk)),AR,Am h2,AR,ht',AR,AS hk (AA h.1.1),take_snoc h1,e]; rfl) (fun rec => by
    simp only [BV]
    rw [AG,cond_false,<- UG (cols:=cols) hc,List.take_length]; rfl) fz (HP h.1.1)
   have hloop' : Ao (BV c cols) fz ((List.length cols : Int),([] : List (List Int)),([] : List Int),0) = some (ba (cols.length : Int) (NU c cols)):=hloop
   rw [Bool.not_true,cond_false,hloop',AR]
   show (Ad (Fu ((cols.length : Int),AC 0 (keysL (NU c cols)),(keysL (NU c cols)).map (Fp (NU c cols)))) _) = _
   rw [Ta hok,AR]
   simp only [ba]
   rw [Ap (Ut _),RT]
   have hv:=XD (Qr (a:=(cols.length : Int)) hok)
   show (Ad (A2 (Qz (cols.length : Int) (NU c cols))) _) = _
   rw [hv,AR,Bool.true_and,Bool.true_and]
   cases H2 (Qz (cols.length : Int) (NU c cols)) <;> rfl
theorem kG {a : Int} {rows : List Row} {counts : List Int} (hn : nrB a rows = ((a,sortB rows),true)) (hl : rows.length = counts.length) (hok : OkL (rows.zip counts)) : Hq a rows counts = some (cond (H2 (Qz a (rows.zip counts))) (Qz a (rows.zip counts),true) ((0,[],[]),false)):=by
 have hfst : (rows.zip counts).map (·.1) = rows:=by rw [<- List.unzip_fst,List.unzip_zip hl]
 have hlz : (rows.zip counts).length = rows.length:=by rw [List.length_zip]; omega
 have hrl:=hok.1
 have hK : sortB rows = keysL (rows.zip counts):=by unfold keysL; rw [hfst]
 have hrow : ∀ k (hk : k < rows.length) (hk2 : k < (rows.zip counts).length) (hk3 : k < counts.length),(rows.zip counts)[k] = (rows[k],counts[k]):=fun k hk hk2 hk3 => List.getElem_zip
 generalize hP : rows.zip counts = P at *
 have hsm:=RU hok
 have hs:=Nw P
 have hsmr : Bl rows:=⟨by unfold lim; omega,fun r hr => by rw [<- hfst] at hr; obtain ⟨p,hp,rfl⟩:=List.mem_map.1 hr; exact (hok.2 p hp).1⟩
 have hKl : (keysL P).length <= 65536:=Nat.le_trans (ZZ P) hok.1
 unfold Hq
 rw [lC hsmr,AR,hn]
 simp only [Bool.not_true,cond_false]
 rw [hK,Ap (MV hsm.1)]
 have hl1:=DN (body:=F1 rows counts ((a,keysL P),true)) (out:=(keysL P).map (Fp P)) (fun k => ((keysL P).map (Fp (P.take k)),(k : Int))) rows.length (fun k hk rec => by
  have hk2 : k < P.length:=by omega
  have hPl : P.length <= 65536:=hok.1
  have hk3 : k < counts.length:=by omega
  have hrk:=hrow k hk hk2 hk3
  obtain ⟨j,hj,e,h1,h2⟩:=VN (r:=(a,keysL P)) (row:=rows[k]) hs hsm
  have hm : rows[k] ∈ keysL P:=Kd.2 ⟨P[k],List.getElem_mem hk2,by rw [hrk]⟩
  obtain ⟨hj',ej⟩:=at_k hs h1 h2 hm
  have hC : ((keysL P).map (Fp (P.take k))).length = (keysL P).length:=List.length_map _
  have eg : AO ((keysL P).map (Fp (P.take k))) (j : Int) = some (Fp (P.take k) (keysL P)[j]):=by rw [Am (by rw [hC]; exact hj'),List.getElem_map]
  have hb:=UM (keysL P)[j] (l:=P.take k) fun p hp => (hok.2 p (List.mem_of_mem_take hp)).2
  have hn:=(hok.2 _ (List.getElem_mem hk2)).2
  rw [hrk] at hn
  rw [List.length_take] at hb
  have es:=YF (YO hs) hj' (P.take k) counts[k]
  have ea : P.take k ++ [((keysL P)[j],counts[k])] = P.take (k + 1):=by rw [take_snoc hk2,hrk,ej]
  rw [ea] at es
  simp only [F1]
  rw [AL hk,cond_true,Am hk,AR,e,AR,eg,AR,Am hk3,AR,AR,wrap_in (by simp only at hn; omega),AS hk (AA hsmr.1)]
  unfold Jr
  simp only
  rw [Int.toNat_natCast,es]) (fun rec => by
  simp only [F1]
  rw [AG,cond_false,<- hlz,List.take_length]) fz (HP hsmr.1)
 have hz : List.replicate (Int.toNat (List.length (keysL P) : Int)) (0 : Int) = (keysL P).map (Fp (P.take 0)):=by
  rw [Int.toNat_natCast]
  exact (List.eq_replicate_iff.2 ⟨List.length_map _,fun x hx => by obtain ⟨z,-,rfl⟩:=List.mem_map.1 hx; rfl⟩).symm
 have hl1' : Ao (F1 rows counts ((a,keysL P),true)) fz ((List.replicate (Int.toNat (List.length (keysL P) : Int)) (0 : Int)),0) = some ((keysL P).map (Fp P)):=by rw [hz]; exact hl1
 rw [hl1',AR]
 have hC : ((keysL P).map (Fp P)).length = (keysL P).length:=List.length_map _
 have hE : (AC 0 (keysL P)).length = (keysL P).length:=Ix 0 _
 have hl2:=DN (body:=E1 ((a,keysL P),true) ((keysL P).map (Fp P))) (out:=((AC 0 (keysL P)).filter (fun p => nzB P p.2),((keysL P).filter (nzB P)).map (Fp P))) (fun k => (((AC 0 (keysL P)).take k).filter (fun p => nzB P p.2),(((keysL P).take k).filter (nzB P)).map (Fp P),(k : Int))) (keysL P).length (fun k hk rec => by
  have hkE : k < (AC 0 (keysL P)).length:=by omega
  have hEk : (AC 0 (keysL P))[k] = (k,(keysL P)[k]):=by
   have:=Nm (keysL P) 0 k
   rw [List.getElem?_eq_getElem hkE,List.getElem?_eq_getElem hk] at this
   simpa using this
  have hW : IntKind.i64.wrap ((k : Int) + 1) = ((k + 1 : Nat) : Int):=AS hk (AA hsm.1)
  have f1:=J8 hkE (by rw [hE]; exact hsm.1) (fun p => nzB P p.2) (k,(keysL P)[k])
  have f2:=J8 hk hsm.1 (nzB P) (keysL P)[k]
  simp only [E1]
  rw [decide_eq_true (by rw [hE]; omega),cond_true,Am (by rw [hC]; exact hk),AR,LJ hkE,LJ hk,List.getElem_map,hEk]
  cases hz : nzB P (keysL P)[k] with
  | true =>
   have hz' : (Fp P (keysL P)[k] != 0) = true:=hz
   rw [hz',cond_true,Am hkE,hEk,AR,Ap f1,AR,Ap (by rw [List.length_map]; exact f2)]
   simp only [F2,hz,cond_true,List.map_append,List.map_cons,List.map_nil,hW]
  | false =>
   have hz' : (Fp P (keysL P)[k] != 0) = false:=hz
   rw [hz']
   simp only [cond_false,F2,hz,List.append_nil,hW]) (fun rec => by
  simp only [E1]
  rw [decide_eq_false (by rw [hE]; omega),cond_false,List.take_length,List.take_of_length_le (by omega)]) fz (HP hsm.1)
 have hl2' : Ao (E1 ((a,keysL P),true) ((keysL P).map (Fp P))) fz (([] : List (Nat × List Int)),([] : List Int),0) = some ((AC 0 (keysL P)).filter (fun p => nzB P p.2),((keysL P).filter (nzB P)).map (Fp P)):=hl2
 rw [hl2',AR]
 simp only
 rw [Ap (Ut P),RT]
 have hv:=aC (Qr (a:=a) hok)
 show (Ad (Bg (Qz a P)) _) = _
 rw [hv,AR]
 cases H2 (Qz a P) <;> rfl
theorem ko {r cols : List Int} (hv : NY r = true) (h : ∀ v ∈ cols,0 <= v ∧ v < (r.length : Int)) : NY (FV r cols) = true:=WT fun x hx => by
 unfold FV at hx
 obtain ⟨v,hv',rfl⟩:=List.mem_map.1 hx
 have h1:=h v hv'
 obtain ⟨n,rfl⟩:=Int.eq_ofNat_of_zero_le h1.1
 rw [Gn (by omega)]
 exact SX hv (by omega)
theorem kD {c : Cnt} {cols : List Int} (h : H1 c) (hl : cols.length <= lim) : Ec c cols = some (pjC c cols):=by
 unfold Ec pjC
 rw [Rp (fun k => atB cols k fun e => !btw e 0 (IntKind.i64.wrap (c.1 - 1))) ((((0,[],[]),false)) : Cnt × Bool) hl (fun k hk rec => by
  unfold En
  rw [AL hk,Am hk,AS hk (AA hl),AY hk]
  simp only [cond_true,Ad,NH]) (fun rec => by unfold En; rw [AG]; rfl),AR]
 have hcB : PO c.1 cols = ((!(List.range cols.length).any fun k => atB cols k fun e => !btw e 0 (IntKind.i64.wrap (c.1 - 1))) && decide ((cols.length : Int) <= 5)):=rfl
 cases hb : (List.range cols.length).any fun k => atB cols k fun e => !btw e 0 (IntKind.i64.wrap (c.1 - 1)) with
 | true => rw [hcB,hb]; simp
 | false =>
  simp only [cond_false]
  rw [aC h,AR]
  cases hc : H2 c with
  | false => simp
  | true =>
   rw [Bool.not_true,cond_false]
   rcases Nat.lt_or_ge 5 cols.length with h5 | h5
   ·rw [hcB,decide_eq_true (by omega),decide_eq_false (by omega)]; simp
   ·have hf : PO c.1 cols = true:=by rw [hcB,hb,decide_eq_true (by omega)]; rfl
    rw [decide_eq_false (by omega),cond_false,hf]
    obtain ⟨c5,hin⟩:=T9 hc hf
    have hok:=Yr hc c5
    obtain ⟨-,f2,f3,f4,-,-,f7⟩:=Db hc
    have hml:=Gk (a:=c.2.1) (h:=fun r => FV r cols) (B:=CJ c cols) h.1.1 (fun k hk rec => by
     simp only [CJ]
     rw [AL hk,cond_true,Am hk,AR,ky hl (hin _ (List.getElem_mem hk)),AR,Ap (by simp only [List.length_singleton,List.length_map,List.length_take]; have:=h.1.1; omega),AS hk (AA h.1.1)]) (fun rec y => by simp only [CJ]; rw [AG,cond_false])
    rw [hml,AR]
    have hnr : nrB (cols.length : Int) (c.2.1.map fun r => FV r cols) = (((cols.length : Int),sortB (c.2.1.map fun r => FV r cols)),true):=oe (by unfold btw; simp; omega) (by rw [List.length_map]; exact f3) (fun r hr => by
     obtain ⟨x,hx,rfl⟩:=List.mem_map.1 hr
     exact ⟨by simp only [FV,List.length_map],ko (f4 x hx).2 (hin x hx)⟩)
    rw [kG hnr (by rw [List.length_map]; exact f2) hok,AR,Bool.true_and,Bool.true_and]
    show some (((cond (H2 (Qz (cols.length : Int) (NU c cols))) (Qz (cols.length : Int) (NU c cols),true) ((0,[],[]),false)) : Cnt × Bool)) = _
    rfl
end Go.Proofs.YtpcbnmcfplioeaaGreat
