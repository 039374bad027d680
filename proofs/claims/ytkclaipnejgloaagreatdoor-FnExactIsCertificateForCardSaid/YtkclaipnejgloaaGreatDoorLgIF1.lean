/-
 The leapfrog intersection of the reference. On the printed functions; conditions: sizes.
-/
import Derived.Test.YtkclaipnejgloaaGreatDoorLfIF1
import Derived.Test.YtkclaipnejgloaaGreatDoorUnIF1
namespace Go.Proofs.YtkclaipnejgloaaGreatDoor
open Go.RowKit
set_option linter.unusedVariables false
set_option linter.unusedSimpArgs false
def hdI (l : List Int) : Int:=gI l 0
def scP (H : List Int) (h : Int) : Nat -> Nat
 | 0 => 0
 | k + 1 => if h < gI H k then scP H h k else k + 1
theorem VQ (H : List Int) (h : Int) : ∀ k,scP H h k <= k
 | 0 => Nat.le_refl _
 | k + 1 => by
  rw [scP]
  split
  ·have:=VQ H h k; omega
  ·exact Nat.le_refl _
theorem dU (H : List Int) (h : Int) : ∀ k,(∀ j,scP H h k <= j -> j < k -> h < gI H j) ∧ (0 < scP H h k -> gI H (scP H h k - 1) <= h)
 | 0 => ⟨fun j h1 h2 => by omega,fun h => by rw [scP] at h; omega⟩
 | k + 1 => by
  obtain ⟨i1,i2⟩:=dU H h k
  rw [scP]
  split
  ·rename_i hc
   refine ⟨fun j h1 h2 => ?_,i2⟩
   rcases Nat.lt_or_ge j k with h3 | h3
   ·exact i1 j h1 h3
   ·have : j = k:=by omega
    subst this; exact hc
  ·rename_i hc
   exact ⟨fun j h1 h2 => by omega,fun _ => by rw [Nat.add_sub_cancel]; omega⟩
def putAt {α : Type} (l : List α) (k : Nat) (x : α) : List α:=l.take k ++ x :: l.drop k
theorem ZM {α : Type} {l : List α} {k : Nat} {x : α} (h : k <= l.length) : (putAt l k x).length = l.length + 1:=by
 unfold putAt
 rw [List.length_append,List.length_take,List.length_cons,List.length_drop]; omega
theorem put_mem {α : Type} {l : List α} {k : Nat} {x y : α} : y ∈ putAt l k x ↔ y = x ∨ y ∈ l:=by
 unfold putAt
 conv => rhs; rhs; rw [<- List.take_append_drop k l]
 rw [List.mem_append,List.mem_cons,List.mem_append]
 constructor
 ·rintro (h | h | h)
  ·exact .inr (.inl h)
  ·exact .inl h
  ·exact .inr (.inr h)
 ·rintro (h | h | h)
  ·exact .inr (.inl h)
  ·exact .inl h
  ·exact .inr (.inr h)
theorem R5 {α β : Type} (f : α -> β) (l : List α) (k : Nat) (x : α) : (putAt l k x).map f = putAt (l.map f) k (f x):=by
 unfold putAt
 rw [List.map_append,List.map_cons,List.map_take,List.map_drop]
theorem TT {l : List Int} (hs : l.Pairwise fun a b => a <= b) (h : Int) : (putAt l (scP l h l.length) h).Pairwise fun a b => a <= b:=by
 obtain ⟨i1,i2⟩:=dU l h l.length
 have hle:=VQ l h l.length
 generalize scP l h l.length = k at i1 i2 hle
 unfold putAt
 refine List.pairwise_append.2 ⟨hs.sublist (List.take_sublist _ _),List.pairwise_cons.2 ⟨fun y hy => ?_,hs.sublist (List.drop_sublist _ _)⟩,fun a ha b hb => ?_⟩
 ·obtain ⟨j,hj,rfl⟩:=List.mem_iff_getElem.1 hy
  rw [List.length_drop] at hj
  rw [List.getElem_drop]
  have:=i1 (k + j) (by omega) (by omega)
  rw [JO (by omega)] at this
  omega
 ·obtain ⟨j,hj,rfl⟩:=List.mem_iff_getElem.1 ha
  rw [List.length_take] at hj
  rw [List.getElem_take]
  have hk1:=i2 (by omega)
  rw [JO (by omega)] at hk1
  have hjk : l[j] <= l[k - 1]:=by
   rcases Nat.lt_or_ge j (k - 1) with h1 | h1
   ·exact List.pairwise_iff_getElem.1 hs j (k - 1) (by omega) (by omega) h1
   ·have : j = k - 1:=by omega
    subst this; exact Int.le_refl _
  rcases List.mem_cons.1 hb with rfl | hb
  ·omega
  ·obtain ⟨i,hi,rfl⟩:=List.mem_iff_getElem.1 hb
   rw [List.length_drop] at hi
   rw [List.getElem_drop]
   exact List.pairwise_iff_getElem.1 hs j (k + i) (by omega) (by omega) (by omega)
def oxK (L : List (List Int)) : Nat -> List Nat
 | 0 => []
 | i + 1 => putAt (oxK L i) (scP ((oxK L i).map fun j => hdI (gL L j)) (hdI (gL L i)) i) i
theorem Kt (L : List (List Int)) : ∀ i,(oxK L i).length = i
 | 0 => rfl
 | i + 1 => by
  have h:=Kt L i
  rw [oxK,ZM (by rw [h]; exact VQ _ _ _),h]
theorem LW (L : List (List Int)) : ∀ i j,j ∈ oxK L i ↔ j < i
 | 0,j => by simp [oxK]
 | i + 1,j => by
  rw [oxK,put_mem,LW L i]; omega
theorem VE {α : Type} {l : List α} {k : Nat} {x : α} (h : l.Nodup) (hx : x ∉ l) : (putAt l k x).Nodup:=by
 unfold putAt
 have h':=h
 rw [<- List.take_append_drop k l] at h'
 obtain ⟨h1,h2,h3⟩:=List.nodup_append.1 h'
 refine List.nodup_append.2 ⟨h1,List.nodup_cons.2 ⟨fun hm => hx (List.mem_of_mem_drop hm),h2⟩,fun a ha b hb => ?_⟩
 rcases List.mem_cons.1 hb with rfl | hb
 ·intro e; subst e; exact hx (List.mem_of_mem_take ha)
 ·exact h3 a ha b hb
theorem S9 (L : List (List Int)) : ∀ i,(oxK L i).Nodup
 | 0 => List.nodup_nil
 | i + 1 => by rw [oxK]; exact VE (S9 L i) (fun h => by have:=(LW L i i).1 h; omega)
theorem QU (L : List (List Int)) : ∀ i,((oxK L i).map fun j => hdI (gL L j)).Pairwise fun a b => a <= b
 | 0 => List.Pairwise.nil
 | i + 1 => by
  rw [oxK,R5]
  have:=TT (QU L i) (hdI (gL L i))
  rw [List.length_map,Kt] at this
  exact this
def rkL (L : List (List Int)) : List (List Int):=(oxK L L.length).map (gL L)
theorem Jz (L : List (List Int)) : (rkL L).length = L.length:=by unfold rkL; rw [List.length_map,Kt]
theorem JA (L : List (List Int)) (l : List Int) : l ∈ rkL L ↔ l ∈ L:=by
 unfold rkL
 rw [List.mem_map]
 constructor
 ·rintro ⟨j,hj,rfl⟩
  exact La ((LW L _ j).1 hj)
 ·intro h
  obtain ⟨j,hj,rfl⟩:=List.mem_iff_getElem.1 h
  exact ⟨j,(LW L _ j).2 hj,LE hj⟩
theorem YQ (L : List (List Int)) (x : Int) : Comm (rkL L) x ↔ ∀ l ∈ L,x ∈ l:=⟨fun h l hl => h l ((JA L l).2 hl),fun h l hl => h l ((JA L l).1 hl)⟩
theorem SG {α : Type} (f : α -> List Int) (l : List α) {j : Nat} (h : j < l.length) : gL (l.map f) j = f l[j]:=by
 rw [LE (by rw [List.length_map]; exact h),List.getElem_map]
def zeros (k : Nat) : List Nat:=List.replicate k 0
theorem UC (k j : Nat) : gN (zeros k) j = 0:=by
 unfold gN zeros
 rw [List.getElem?_replicate]
 split <;> rfl
def lf0 (M : List (List Int)) : LfS:=([],zeros M.length,0,hdI (gL M (M.length - 1)),0)
theorem U3 {L : List (List Int)} (h0 : 0 < L.length) (hne : ∀ l ∈ L,0 < l.length) (hA : ∀ l ∈ L,Asc l) : LfOk (rkL L) (lf0 (rkL L)):=by
 have hk : 0 < (rkL L).length:=by rw [Jz]; exact h0
 have hz : ∀ j,gN (lf0 (rkL L)).2.1 j = 0:=fun j => UC _ _
 have hval : ∀ j,val (rkL L) (lf0 (rkL L)).2.1 j = hdI (gL (rkL L) j):=fun j => by unfold val; rw [hz]; rfl
 have hpos : ∀ j,j < (rkL L).length -> 0 < (gL (rkL L) j).length:=fun j hj => hne _ ((JA L _).1 (La hj))
 have hs : ∀ a b,a <= b -> b < (rkL L).length -> hdI (gL (rkL L) a) <= hdI (gL (rkL L) b):=fun a b hab hb => by
  have h1:=QU L L.length
  have hol : (oxK L L.length).length = (rkL L).length:=by rw [Kt,Jz]
  unfold rkL
  rw [SG _ _ (by omega),SG _ _ (by omega)]
  rcases Nat.lt_or_ge a b with h2 | h2
  ·have:=List.pairwise_iff_getElem.1 h1 a b (by rw [List.length_map]; omega) (by rw [List.length_map]; omega) h2
   rw [List.getElem_map,List.getElem_map] at this
   exact this
  ·have : a = b:=by omega
   subst this; exact Int.le_refl _
 refine ⟨by show (zeros _).length = _; unfold zeros; rw [List.length_replicate],hk,fun j hj => by rw [hz]; exact hpos j hj,fun a b hab hb => ?_,?_,List.Pairwise.nil,fun x hx => (by cases hx),fun x hx => (by cases hx),fun x hx => .inr ?_⟩
 ·rw [hval,hval]
  show hdI (gL (rkL L) ((0 + a) % (rkL L).length)) <= hdI (gL (rkL L) ((0 + b) % (rkL L).length))
  rw [Nat.zero_add,Nat.zero_add,Nat.mod_eq_of_lt (by omega),Nat.mod_eq_of_lt hb]
  exact hs a b hab hb
 ·rw [hval]
  show hdI (gL (rkL L) ((0 + ((rkL L).length - 1)) % (rkL L).length)) = _
  rw [Nat.zero_add,Nat.mod_eq_of_lt (by omega)]
  rfl
 ·show hdI (gL (rkL L) ((rkL L).length - 1)) <= x
  have hx1:=hx _ (La (show (rkL L).length - 1 < (rkL L).length by omega))
  have hl:=hA _ ((JA L _).1 (La (show (rkL L).length - 1 < (rkL L).length by omega)))
  have hp:=hpos _ (show (rkL L).length - 1 < (rkL L).length by omega)
  unfold hdI
  rw [JO hp]
  exact Ru hl hx1 (fun k hk h => absurd h (by omega)) hp
theorem Tf {M : List (List Int)} {A : List Nat} {B : Nat} (h : ∀ l ∈ M,l.length <= B) : ∀ K,K <= M.length -> Q2 M A K <= K * B
 | 0,_ => by rw [Q2]; omega
 | K + 1,hK => by
  have h1:=Tf (A:=A) h K (by omega)
  have h2:=h _ (La (show K < M.length by omega))
  rw [Q2,Nat.add_mul,Nat.one_mul]; omega
section
variable {L : List (List Int)}
theorem SF {α : Type} {l : List α} {a b : Nat} {v : α} (ha : a < l.length) : AA (Ky l (a : Int) v) (b : Int) = if b = a then some v else AA l (b : Int):=by
 unfold Ky
 rw [F0,F0,List.getElem?_set,Int.toNat_natCast]
 by_cases h : a = b
 ·subst h; rw [if_pos rfl,if_pos ha,if_pos rfl]
 ·rw [if_neg h,if_neg (fun e => h e.symm)]
structure SimS (L : List (List Int)) (s : LfS) (y : List Int) : Prop where
 len : y.length = L.length
 at_ : ∀ j (hj : j < (oxK L L.length).length),AA y (((oxK L L.length)[j] : Nat) : Int) = some ((gN s.2.1 j : Nat) : Int)
 few : s.1.length <= s.2.2.2.2
def oxI (L : List (List Int)) : List Int:=(oxK L L.length).map fun (j : Nat) => (j : Int)
theorem V3 {p k : Nat} (hk : 0 < k) (hp : p < k) (hkl : k <= lim) : Int.tmod (IntKind.i64.wrap ((p : Int) + 1)) (k : Int) = (((p + 1) % k : Nat) : Int):=by
 unfold lim at hkl
 rw [wrap_in (by omega),Int.tmod_eq_emod_of_nonneg (by omega)]
 norm_cast
theorem dO (hL : L.length <= lim) (hlen : ∀ l ∈ L,l.length <= lim) (hA : ∀ l ∈ L,Asc l) : ∀ (m : Nat) (s : LfS) (y : List Int),LfOk (rkL L) s -> SimS L s y -> s.2.2.2.2 + Q2 (rkL L) s.2.1 (rkL L).length <= lim ->
  Ah (Bp L (oxI L)) m (s.1,y,(s.2.2.1 : Int),s.2.2.2.1,(s.2.2.2.2 : Int)) = (lfR (rkL L) m s).map fun r => .inr (r.1,(r.2 : Int))
 | 0,s,y,h,hy,hb => rfl
 | m + 1,s,y,h,hy,hb => by
  have hA' : ∀ l ∈ rkL L,Asc l:=fun l hl => hA l ((JA L l).1 hl)
  obtain ⟨out,at_,p,top,n⟩:=s
  obtain ⟨hp,e1,e2⟩:=SP h
  obtain ⟨n1,n2⟩:=RT h
  have hpo : p < (oxK L L.length).length:=by have:=h.p; rw [Jz] at this; rw [Kt]; exact this
  have hpa : p < at_.length:=by have:=h.len; simp only at this; rw [this,Jz,<- Kt L L.length]; exact hpo
  have hrem:=(P8 (M:=rkL L) hpa n1 n2 (rkL L).length).2 h.p
  simp only at hp e1 e2 n1 n2 hrem hb
  have hbl:=hlen _ ((JA L _).1 (La h.p))
  simp only at hbl
  have gM : gL (rkL L) p = gL L (oxK L L.length)[p]:=by unfold rkL; exact SG _ _ hpo
  generalize hq : (oxK L L.length)[p] = q at gM
  have hqL : q < L.length:=by rw [<- hq]; exact (LW L _ _).1 (List.getElem_mem hpo)
  have hqy : q < y.length:=by rw [hy.len]; exact hqL
  have g1 : AA (oxI L) (p : Int) = some (q : Int):=by
   unfold oxI
   rw [F0,List.getElem?_map,List.getElem?_eq_getElem hpo,hq]; rfl
  have g2 : AA L (q : Int) = some (gL (rkL L) p):=by rw [gM,LE hqL]; exact Ai hqL
  have g3 : AA y (q : Int) = some ((gN at_ p : Nat) : Int):=by have:=hy.at_ p hpo; rw [hq] at this; exact this
  have g4 : AA (gL (rkL L) p) ((gN at_ p : Nat) : Int) = some (gI (gL (rkL L) p) (gN at_ p)):=by rw [Ai hp,JO hp]
  have hfew:=hy.few
  simp only at hfew
  have hN : IntKind.i64.wrap ((n : Int) + 1) = ((n + 1 : Nat) : Int):=by unfold lim at hb; rw [wrap_in (by omega)]; omega
  have hox : (oxI L).length = (rkL L).length:=by unfold oxI; rw [List.length_map,Kt,Jz]
  have hk0 : 0 < (rkL L).length:=by have:=h.p; omega
  have hJ : ∀ (o : List Int) (i : Nat),o = lfO (rkL L) (out,at_,p,top,n) -> i = lfI (rkL L) (out,at_,p,top,n) -> o.length <= n + 1 ->
    Bq (Ah (Bp L (oxI L)) m) L (oxI L) (p : Int) (n : Int) (q : Int) o (Ky y (q : Int) (i : Int)) = (lfR (rkL L) (m + 1) (out,at_,p,top,n)).map fun r => .inr (r.1,(r.2 : Int)):=by
   intro o i ho hi hol
   unfold Bq
   have gs : AA (Ky y (q : Int) (i : Int)) (q : Int) = some (i : Int):=by rw [SF hqy,if_pos rfl]
   rw [gs]
   simp only [Ad,g2]
   rw [lfR]
   simp only [<- ho,<- hi]
   by_cases hc : i = (gL (rkL L) p).length
   ·rw [show ((i : Int) == ((gL (rkL L) p).length : Int)) = true by rw [beq_iff_eq]; omega,show (i == (gL (rkL L) p).length) = true by rw [beq_iff_eq]; exact hc]
    simp only [cond_true,Option.map_some,hN]
   ·rw [show ((i : Int) == ((gL (rkL L) p).length : Int)) = false by rw [beq_eq_false_iff_ne]; omega,show (i == (gL (rkL L) p).length) = false by rw [beq_eq_false_iff_ne]; exact hc]
    have hil : i < (gL (rkL L) p).length:=by rw [<- hi] at n2; omega
    rw [show AA (gL (rkL L) p) (i : Int) = some (gI (gL (rkL L) p) i) by rw [Ai hil,JO hil]]
    simp only [cond_false]
    rw [Ar (by rw [hox]; omega),hox,V3 hk0 h.p (by rw [Jz]; exact hL),hN]
    have hok:=RU h hA' (by simp only; rw [<- hi]; exact hil)
    simp only [<- ho,<- hi] at hok hrem
    refine dO hL hlen hA m (o,at_.set p i,(p + 1) % (rkL L).length,gI (gL (rkL L) p) i,n + 1) _ hok ⟨?_,fun j hj => ?_,hol⟩ (by simp only; omega)
    ·unfold Ky; rw [List.length_set]; exact hy.len
    ·simp only
     rw [SF hqy,QD hpa]
     by_cases hjp : j = p
     ·subst hjp
      rw [if_pos hq,if_pos rfl]
     ·rw [if_neg (fun e => hjp ?_),if_neg hjp]
      ·exact hy.at_ j hj
      ·rw [<- hq] at e
       exact (List.getElem_inj (S9 L L.length)).1 e
  rw [AD,Bp]
  simp only [g1,Ad,g2,g3,g4]
  cases hc : (gI (gL (rkL L) p) (gN at_ p) == top) with
  | true =>
   have hc' : gI (gL (rkL L) p) (gN at_ p) = top:=by simpa using hc
   simp only [cond_true]
   rw [Ar (by simp only [List.length_singleton]; omega),hc',show IntKind.i64.wrap (((gN at_ p : Nat) : Int) + 1) = ((gN at_ p + 1 : Nat) : Int) by unfold lim at hbl; rw [wrap_in (by omega)]; omega]
   exact hJ _ _ (by unfold lfO; simp only; rw [hc]; rfl) (by unfold lfI; simp only; rw [hc]; rfl) (by simp only [List.length_append,List.length_singleton]; omega)
  | false =>
   simp only [cond_false]
   rw [dQ hbl (Nat.le_of_lt hp)]
   exact hJ _ _ (by unfold lfO; simp only; rw [hc]; rfl) (by unfold lfI; simp only; rw [hc]; rfl) (by omega)
theorem dD {l : List Int} (hl : l.length <= lim) : Cm l = some (!Ay l (Hs l)):=by
 unfold Cm
 rcases Nat.eq_zero_or_pos l.length with h0 | h0
 ·have : l = []:=List.eq_nil_of_length_eq_zero h0
  subst this
  rw [show fz = (fz - 1) + 1 by unfold fz; rfl,AD]
  rfl
 ·have key : ∀ d k : Nat,1 <= k -> k + d = l.length -> ∀ m,d < m -> Ah (AU l) m (k : Int) = some (cond ((List.range' k d).any fun j => atB l j fun e => Hs l j e) (.inr false) (.inl ())):=by
   intro d
   induction d with
   | zero =>
    intro k hk1 hk m hm
    obtain ⟨m,rfl⟩ : ∃ j,m = j + 1:=⟨m - 1,by omega⟩
    rw [AD,AU,decide_eq_false (by omega)]; rfl
   | succ d ih =>
    intro k hk1 hk m hm
    obtain ⟨m,rfl⟩ : ∃ j,m = j + 1:=⟨m - 1,by omega⟩
    have hk2 : k < l.length:=by omega
    have hpre : IntKind.i64.wrap ((k : Int) - 1) = ((k - 1 : Nat) : Int):=by unfold lim at hl; rw [wrap_in (by omega)]; omega
    have hk3 : k - 1 < l.length:=by omega
    rw [AD,AU,Az hk2,Ai hk2,hpre,Ai hk3,AF hk2 (Au hl)]
    simp only [cond_true,Ad]
    rw [List.range'_succ,List.any_cons,AN hk2]
    have hn : Hs l k l[k] = decide (l[k] <= l[k - 1]):=by unfold Hs; rw [decide_eq_true (by omega),Bool.true_and,AN hk3]
    rw [hn,ih (k + 1) (by omega) (by omega) m (by omega)]
    cases decide (l[k] <= l[k - 1]) <;> rfl
  have:=key (l.length - 1) 1 (Nat.le_refl _) (by omega) fz (by unfold fz; unfold lim at hl; omega)
  have e : (AU l) = (AU l):=rfl
  rw [show ((1 : Int)) = ((1 : Nat) : Int) from rfl,this]
  simp only [Ad]
  have hb : Ay l (Hs l) = (List.range' 1 (l.length - 1)).any fun j => atB l j fun e => Hs l j e:=by
   unfold Ay
   obtain ⟨n,hn⟩ : ∃ n,l.length = n + 1:=⟨l.length - 1,by omega⟩
   rw [hn,List.range_eq_range',List.range'_succ,List.any_cons,Nat.add_sub_cancel]
   have : atB l 0 (fun e => Hs l 0 e) = false:=by
    rw [AN h0]; unfold Hs; rfl
   rw [this,Bool.false_or]
  rw [hb]
  cases (List.range' 1 (l.length - 1)).any fun j => atB l j fun e => Hs l j e <;> rfl
end
end Go.Proofs.YtkclaipnejgloaaGreatDoor
