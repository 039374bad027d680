/-
 All bindings of a query: what the reference finds, and how rows are counted. On the printed functions; conditions: sizes.
-/
import Derived.Test.YtklcofndjkjldaaGreatAbNT1
namespace Go.Proofs.YtklcofndjkjldaaGreat
open Go.RowKit
set_option linter.unusedVariables false
set_option linter.unusedSimpArgs false
section
variable {d : List Tbl} {q : Qry}
def IsB (d : List Tbl) (q : Qry) (x : List Int) : Prop:=(x.length : Int) = q.1 ∧ ∀ a ∈ q.2.1,DD x a.2 ∈ (BY d a.1).1.2
theorem Np {x l : List Int} {c : Int} (h : 0 <= c ∧ c < l.length) : atI (DD x l) c = atI x (atI l c):=by
 obtain ⟨k,rfl⟩:=Int.eq_ofNat_of_zero_le h.1
 have hk : k < l.length:=by omega
 rw [Gb (l:=l) hk,Gb (l:=DD x l) (by unfold DD; rw [List.length_map]; exact hk)]
 unfold DD
 rw [List.getElem_map]
def Xz (a : Atm) (x : List Int) : List Int:=(avL a 5).map fun v => atI x v
theorem XA {a : Atm} {x : List Int} (ha : Oe a) (h : DD x a.2 ∈ (BY d a.1).1.2) : Xz a x ∈ (abB d a).2:=by
 unfold abB
 refine (EX _ _).2 ?_
 unfold Nr
 refine List.mem_map.2 ⟨DD x a.2,List.mem_filter.2 ⟨h,?_⟩,?_⟩
 ·unfold Q6
  rw [List.all_eq_true]
  intro i hi
  have hi:=List.mem_range.1 hi
  rw [Gb hi]
  obtain ⟨k,hk,e1,e2⟩:=IG (l:=a.2) (v:=a.2[i]) (List.contains_iff_mem.2 (List.getElem_mem hi))
  rw [e1,Np (by omega),Np (by omega),Gb hk,Gb hi,e2]
  simp
 ·unfold rowOf Xz
  refine List.map_congr_left fun v hv => ?_
  obtain ⟨k,hk,e1,e2⟩:=IG (Kb.1 hv).2
  rw [e1,Np (by omega),Gb hk,e2]
theorem at_set {x : List Int} {u v e : Int} (hv : 0 <= v ∧ v < x.length) (hu : 0 <= u ∧ u < x.length) : atI (It x v e) u = if u = v then e else atI x u:=by
 obtain ⟨i,rfl⟩:=Int.eq_ofNat_of_zero_le hv.1
 obtain ⟨k,rfl⟩:=Int.eq_ofNat_of_zero_le hu.1
 have hk : k < x.length:=by omega
 unfold It
 rw [Gb (l:=x) hk,Gb (l:=x.set (i : Int).toNat e) (by rw [List.length_set]; exact hk),List.getElem_set]
 simp only [Int.toNat_natCast]
 by_cases h : i = k
 ·subst h; simp
 ·rw [if_neg h,if_neg (by omega)]
def WkG (d : List Tbl) (q : Qry) (n : Nat) (row z : List Int) : Prop :=
 z.length = row.length ∧ (∀ v : Int,0 <= v -> v < row.length -> atI row v = -1 ∨ atI z v = atI row v) ∧ ∀ i (hi : i < q.2.1.length),n <= i -> DD z (q.2.1[i]).2 ∈ (BY d (q.2.1[i]).1).1.2
def WkC (row V w z : List Int) : Prop:=z.length = row.length ∧ (∀ v : Int,0 <= v -> v < row.length -> atI row v = -1 ∨ atI row v = atI z v) ∧ ∀ i (hi : i < V.length),atI w (i : Int) = atI z V[i]
def WkT (d : List Tbl) (q : Qry) (n : Nat) (row z : List Int) : Prop :=
 z.length = row.length ∧ (∀ v : Int,0 <= v -> v < row.length -> atI row v = atI z v ∨ (atI row v = -1 ∧ ∃ i,∃ hi : i < q.2.1.length,n <= i ∧ v ∈ (q.2.1[i]).2)) ∧ ∀ i (hi : i < q.2.1.length),n <= i -> DD z (q.2.1[i]).2 ∈ (BY d (q.2.1[i]).1).1.2
theorem Y9 {x z : List Int} (hl : z.length = x.length) (h : ∀ v : Int,0 <= v -> v < x.length -> atI x v = atI z v) : x = z:=by
 refine List.ext_getElem hl.symm fun i h1 h2 => ?_
 have:=h i (by omega) (by omega)
 rwa [Gb h1,Gb h2] at this
theorem gH {n j : Nat} {V w row : List Int} {v6 : (Int × List (List Int)) × Bool} (hn : n < q.2.1.length) (hV : (q.2.1[n]).2 = V) (hj : AK v6.1.2 (j : Int) = some w) (har : v6.1.1 = (V.length : Int)) (hw : w.length = V.length) (hl : V.length <= 5) (hin : ∀ v ∈ V,0 <= v ∧ v < (row.length : Int)) (hp : ∀ e ∈ w,0 <= e) :
  ∃ x b,Al (C0 q (n : Int) v6 (j : Int)) fz (row,true,0) = some (x,b) ∧ x.length = row.length ∧ (b = true -> (∀ v : Int,0 <= v -> v < row.length -> atI row v = -1 ∨ atI x v = atI row v) ∧ (∀ i (hi : i < V.length),atI x V[i] = atI w (i : Int)) ∧ ∀ v : Int,0 <= v -> v < row.length -> v ∉ V -> atI x v = atI row v) ∧ ∀ z,WkC row V w z -> b = true:=by
 obtain ⟨⟨x,b⟩,e,h1,h2,h3⟩:=F0 (B:=C0 q (n : Int) v6 (j : Int)) (fun s => s.1.length = row.length ∧ ∃ k : Nat,s.2.2 = (k : Int) ∧ k <= V.length ∧ (s.2.1 = true -> (∀ v : Int,0 <= v -> v < row.length -> atI row v = -1 ∨ atI s.1 v = atI row v) ∧ (∀ i (hi : i < V.length),i < k -> atI s.1 V[i] = atI w (i : Int)) ∧ ∀ v : Int,0 <= v -> v < row.length -> v ∉ V -> atI s.1 v = atI row v) ∧ ∀ z,WkC row V w z -> s.2.1 = true ∧ ∀ v : Int,0 <= v -> v < row.length -> atI s.1 v = atI row v ∨ atI s.1 v = atI z v)
  (fun s => V.length - s.2.2.toNat) (fun o => o.1.length = row.length ∧ (o.2 = true -> (∀ v : Int,0 <= v -> v < row.length -> atI row v = -1 ∨ atI o.1 v = atI row v) ∧ (∀ i (hi : i < V.length),atI o.1 V[i] = atI w (i : Int)) ∧ ∀ v : Int,0 <= v -> v < row.length -> v ∉ V -> atI o.1 v = atI row v) ∧ ∀ z,WkC row V w z -> o.2 = true) (fun s hs => by
  obtain ⟨x,b,kk⟩:=s
  obtain ⟨i1,k,rfl,i3,i4,i7⟩:=hs
  simp only at i1 i4 i7
  by_cases hk : k < V.length
  ·cases b with
   | false =>
    left
    refine ⟨(x,false),⟨i1,(fun h => by cases h),fun z hz => (i7 z hz).1⟩,fun rec => ?_⟩
    simp only [C0]
    cases decide ((k : Int) < v6.1.1) <;> rfl
   | true =>
    right
    obtain ⟨i5,i6,i8⟩:=i4 rfl
    have hv:=hin _ (List.getElem_mem hk)
    have hx : 0 <= V[k] ∧ V[k] < (x.length : Int):=by omega
    have hwk : AK w (k : Int) = some (atI w (k : Int)):=Mi ⟨by omega,by omega⟩
    have hw0 : 0 <= atI w (k : Int):=by rw [Gb (by omega)]; exact hp _ (List.getElem_mem _)
    have hW : IntKind.i64.wrap ((k : Int) + 1) = ((k + 1 : Nat) : Int):=by rw [wrap_in (by omega)]; simp
    have hJ : ∀ rec b',FY rec v6 (j : Int) x (k : Int) V[k] b' = rec (It x V[k] (atI w (k : Int)),b',((k + 1 : Nat) : Int)):=fun rec b' => by
     unfold FY
     rw [Ak (by omega),hj,AE,hwk,AE,Mi hx,AE,hW]
    have hB : ∀ rec,C0 q (n : Int) v6 (j : Int) rec (x,true,(k : Int)) = rec (It x V[k] (atI w (k : Int)),(atI x V[k] == -1 || atI x V[k] == atI w (k : Int)),((k + 1 : Nat) : Int)):=fun rec => by
     simp only [C0]
     rw [har,AF hk,cond_true,cond_true,Aj hn,AE,hV,Aj hk,AE,Mi hx,AE,AE,hj,AE,hwk,AE,hJ,hJ]
     cases atI x V[k] == -1 <;> rfl
    refine ⟨_,⟨by unfold It; rw [List.length_set]; exact i1,k + 1,rfl,hk,fun hb => ?_,fun z hz => ?_⟩,by simp only [Int.toNat_natCast]; omega,hB⟩
    case refine_2 =>
     have hwz : atI w (k : Int) = atI z V[k]:=hz.2.2 k hk
     have h7:=(i7 z hz).2
     refine ⟨?_,fun v h0 h1 => ?_⟩
     ·simp only [Bool.or_eq_true,beq_iff_eq]
      rcases h7 _ hv.1 hv.2 with h | h
      ·rcases hz.2.1 _ hv.1 hv.2 with h' | h'
       ·exact .inl (by omega)
       ·exact .inr (by omega)
      ·exact .inr (by omega)
     ·simp only
      rw [at_set hx ⟨h0,by omega⟩]
      split
      ·rename_i ev
       subst ev
       exact .inr hwz
      ·exact h7 v h0 h1
    rw [Bool.or_eq_true,beq_iff_eq,beq_iff_eq] at hb
    refine ⟨fun v h0 h1 => ?_,fun i hi hik => ?_,fun v h0 h1 hvn => ?_⟩
    rotate_left 2
    ·rw [at_set hx ⟨h0,by omega⟩,if_neg (fun e => hvn (by rw [e]; exact List.getElem_mem hk))]
     exact i8 v h0 h1 hvn
    ·rw [at_set hx ⟨h0,by omega⟩]
     split
     ·rename_i ev
      subst ev
      rcases i5 _ h0 h1 with h | h
      ·exact .inl h
      ·rcases hb with hb | hb
       ·exact .inl (by omega)
       ·exact .inr (by omega)
     ·exact i5 v h0 h1
    ·have hvi:=hin _ (List.getElem_mem hi)
     rw [at_set hx ⟨hvi.1,by omega⟩]
     rcases Nat.lt_or_ge i k with h | h
     ·split
      ·rename_i ev
       have h6:=i6 i hi h
       rw [ev] at h6
       have : 0 <= atI w (i : Int):=by rw [Gb (by omega)]; exact hp _ (List.getElem_mem _)
       rcases hb with hb | hb
       ·omega
       ·omega
      ·exact i6 i hi h
     ·have : i = k:=by omega
      subst this
      rw [if_pos rfl]
  ·left
   have hkl : k = V.length:=by omega
   refine ⟨(x,b),⟨i1,fun hb => ⟨(i4 hb).1,fun i hi => (i4 hb).2.1 i hi (by omega),(i4 hb).2.2⟩,fun z hz => (i7 z hz).1⟩,fun rec => ?_⟩
   simp only [C0]
   rw [har,decide_eq_false (by omega : ¬ (k : Int) < (V.length : Int))]; rfl) fz (row,true,0) ⟨rfl,0,rfl,Nat.zero_le _,fun _ => ⟨fun v _ _ => .inr rfl,fun i hi h => absurd h (by omega),fun v _ _ _ => rfl⟩,fun z hz => ⟨rfl,fun v _ _ => .inl rfl⟩⟩ (by unfold fz; simp only; omega)
 exact ⟨x,b,e,h1,h2,h3⟩
theorem Vs (h : Iu d) (hq : J7 d q = true) : ∀ (r n : Nat),n + r = q.2.1.length -> ∀ (row : List Int) (m : Nat),(row.length : Int) = q.1 -> r < m -> ∃ out,Al B4 m (d,q,(n : Int),row) = some out ∧ out.length <= 16 ^ r ∧ (∀ z ∈ out,WkG d q n row z) ∧ ∀ z,WkT d q n row z -> z ∈ out
 | 0,n,hn,row,m,hrow,hm => by
  obtain ⟨g1,g2,g3⟩:=HT hq
  obtain ⟨q1,q2,-⟩:=Hv g1
  obtain ⟨m,rfl⟩ : ∃ k,m = k + 1:=⟨m - 1,by omega⟩
  refine ⟨[row],?_,by simp,fun z hz => ?_,fun z hz => ?_⟩
  rotate_right
  ·rw [List.mem_singleton]
   refine (Y9 hz.1 fun v h0 h1 => ?_).symm
   rcases hz.2.1 v h0 h1 with h | ⟨-,i,hi,hni,-⟩
   ·exact h
   ·omega
  ·rw [Ju,B4]
   rw [show ((n : Int) == (q.2.1.length : Int)) = true by rw [beq_iff_eq]; omega,cond_true,List.nil_append,Ak (by simp only [List.length_nil]; unfold lim; omega)]
  ·rw [List.mem_singleton] at hz
   subst hz
   exact ⟨rfl,fun v _ _ => .inr rfl,fun i hi h => absurd h (by omega)⟩
 | r + 1,n,hn,row,m,hrow,hm => by
  obtain ⟨g1,g2,g3⟩:=HT hq
  obtain ⟨q1,q2,-,q4⟩:=Hv g1
  obtain ⟨m,rfl⟩ : ∃ k,m = k + 1:=⟨m - 1,by omega⟩
  have hlt : n < q.2.1.length:=by omega
  have hmem:=List.getElem_mem hlt
  obtain ⟨hok,hfit⟩:=g2 _ hmem
  obtain ⟨f1,f2,-⟩:=Ni hok hfit
  have hfit':=hfit
  unfold Gc at hfit'
  rw [Bool.and_eq_true] at hfit'
  have har : (BY d (q.2.1[n]).1).1.1 = ((q.2.1[n]).2.length : Int):=by simpa using hfit'.2
  have hrel:=LK (Pq hfit'.1).1
  have h16 : 16 ^ r <= 65536:=by
   have:=Nat.pow_le_pow_right (show 0 < 16 by decide) (show r <= 4 by omega)
   exact this
  generalize hR : BY d (q.2.1[n]).1 = R at f1 f2 har hrel
  have key : ∃ out,Al (DB d q (n : Int) row R (Al B4 m)) fz (([] : List (List Int)),0) = some out ∧ out.length <= 16 ^ (r + 1) ∧ (∀ z ∈ out,WkG d q n row z) ∧ ∀ z,WkT d q n row z -> z ∈ out:=by
   obtain ⟨out,e,k1,k2,k3⟩:=F0 (B:=DB d q (n : Int) row R (Al B4 m)) (fun s => ∃ k : Nat,s.2 = (k : Int) ∧ k <= R.1.2.length ∧ s.1.length <= k * 16 ^ r ∧ (∀ z ∈ s.1,WkG d q n row z) ∧ ∀ z,WkT d q n row z -> ∀ j (hj : j < R.1.2.length),j < k -> R.1.2[j] = DD z (q.2.1[n]).2 -> z ∈ s.1) (fun s => R.1.2.length - s.2.toNat) (fun o => o.length <= 16 ^ (r + 1) ∧ (∀ z ∈ o,WkG d q n row z) ∧ ∀ z,WkT d q n row z -> z ∈ o) (fun s hs => by
    obtain ⟨y,kk⟩:=s
    obtain ⟨k,rfl,i1,i2,i3,i4⟩:=hs
    simp only at i2 i3 i4
    by_cases hk : k < R.1.2.length
    ·right
     have hw:=List.getElem_mem hk
     have hv:=hrel.2.2.2 _ hw
     obtain ⟨x,b,e1,x1,x2,x5⟩:=gH (q:=q) (v6:=R) (row:=row) (w:=R.1.2[k]) hlt rfl (Aj hk) har (f1 _ hw) hok.1 (fun v hv => by have:=(q4 _ hmem).2.2 v hv; omega) (fun e he => by
      obtain ⟨i,hi,rfl⟩:=List.mem_iff_getElem.1 he
      exact (P2 hv.2 hi).1)
     have hW : IntKind.i64.wrap ((k : Int) + 1) = ((k + 1 : Nat) : Int):=by rw [wrap_in (by omega)]; simp
     have hto : ∀ z,WkT d q n row z -> R.1.2[k] = DD z (q.2.1[n]).2 -> WkC row (q.2.1[n]).2 R.1.2[k] z:=fun z hz he => ⟨hz.1,fun v h0 h1 => (hz.2.1 v h0 h1).elim .inr (fun h => .inl h.1),fun i hi => by
      rw [he,Np (by omega),Gb hi]⟩
     have hWn : IntKind.i64.wrap ((n : Int) + 1) = ((n + 1 : Nat) : Int):=by rw [wrap_in (by omega)]; simp
     have hmul : k * 16 ^ r <= 16 * 16 ^ r:=Nat.mul_le_mul_right _ (by omega)
     have hsucc : (k + 1) * 16 ^ r = k * 16 ^ r + 16 ^ r:=Nat.succ_mul k (16 ^ r)
     cases b with
     | false =>
      refine ⟨(y,((k + 1 : Nat) : Int)),⟨k + 1,rfl,hk,by simp only; omega,i3,fun z hz j hj hjk he => ?_⟩,by simp only [Int.toNat_natCast]; omega,fun rec => ?_⟩
      ·rcases Nat.lt_or_ge j k with h | h
       ·exact i4 z hz j hj h he
       ·have : j = k:=by omega
        subst this
        exact absurd (x5 z (hto z hz he)) (by simp)
      simp only [DB]
      rw [AF hk,cond_true,Ak (by simp only [List.length_nil]; unfold lim; omega),List.nil_append,e1,AE]
      simp only [cond_false,FZ,hW]
     | true =>
      obtain ⟨x3,x4,x6⟩:=x2 rfl
      obtain ⟨l,e2,l1,l2,l3⟩:=Vs h hq r (n + 1) (by omega) x m (by omega) (by omega)
      refine ⟨(y ++ l,((k + 1 : Nat) : Int)),⟨k + 1,rfl,hk,by simp only [List.length_append]; omega,fun z hz => ?_,fun z hz j hj hjk he => ?_⟩,by simp only [Int.toNat_natCast]; omega,fun rec => ?_⟩
      rotate_left
      ·refine List.mem_append.2 ?_
       rcases Nat.lt_or_ge j k with h | h
       ·exact .inl (i4 z hz j hj h he)
       ·have : j = k:=by omega
        subst this
        refine .inr (l3 z ⟨by rw [hz.1,x1],fun v h0 h1 => ?_,fun i hi hni => hz.2.2 i hi (by omega)⟩)
        have h1 : v < row.length:=by omega
        by_cases hvV : v ∈ (q.2.1[n]).2
        ·obtain ⟨i,hi,rfl⟩:=List.mem_iff_getElem.1 hvV
         left
         rw [x4 i hi,he,Np (by omega),Gb hi]
        ·rw [x6 v h0 h1 hvV]
         rcases hz.2.1 v h0 h1 with h | ⟨h,i,hi,hni,hm⟩
         ·exact .inl h
         ·refine .inr ⟨h,i,hi,?_,hm⟩
          rcases Nat.lt_or_ge n i with h' | h'
          ·exact h'
          ·have : i = n:=by omega
           subst this
           exact absurd hm hvV
      rotate_left
      ·rcases List.mem_append.1 hz with hz | hz
       ·exact i3 z hz
       ·obtain ⟨z1,z2,z3⟩:=l2 z hz
        have hpk : DD z (q.2.1[n]).2 = R.1.2[k]:=by
         refine List.ext_getElem (by unfold DD; rw [List.length_map]; exact (f1 _ hw).symm) fun i hi hi' => ?_
         have hiV : i < (q.2.1[n]).2.length:=by unfold DD at hi; rw [List.length_map] at hi; exact hi
         have hV:=(q4 _ hmem).2.2 _ (List.getElem_mem hiV)
         have h4:=x4 i hiV
         have h5:=z2 _ hV.1 (by omega)
         rw [h4,Gb hi'] at h5
         have h6:=P2 hv.2 hi'
         have e9 : (DD z (q.2.1[n]).2)[i]'hi = atI z ((q.2.1[n]).2[i]'hiV):=List.getElem_map (atI z)
         rw [e9]
         rcases h5 with h5 | h5
         ·omega
         ·exact h5
        refine ⟨by omega,fun v h0 h1 => ?_,fun i hi hni => ?_⟩
        ·rcases x3 v h0 h1 with h5 | h5
         ·exact .inl h5
         ·rcases z2 v h0 (by omega) with h6 | h6
          ·exact .inl (by omega)
          ·exact .inr (by omega)
        ·rcases Nat.lt_or_ge n i with h5 | h5
         ·exact z3 i hi (by omega)
         ·have : i = n:=by omega
          subst this
          rw [hpk,hR]
          exact hw
      ·simp only [DB]
       rw [AF hk,cond_true,Ak (by simp only [List.length_nil]; unfold lim; omega),List.nil_append,e1,AE]
       simp only [cond_true,hWn]
       rw [e2,AE,Ak (by unfold lim; omega)]
       simp only [FZ,hW]
    ·left
     have hmul : k * 16 ^ r <= 16 * 16 ^ r:=Nat.mul_le_mul_right _ (by omega)
     refine ⟨y,⟨by rw [Nat.pow_succ]; omega,i3,fun z hz => ?_⟩,fun rec => ?_⟩
     ·have hm:=hz.2.2 n hlt (Nat.le_refl n)
      rw [hR] at hm
      obtain ⟨j,hj,he⟩:=List.mem_iff_getElem.1 hm
      exact i4 z hz j hj (by omega) he
     simp only [DB]
     rw [decide_eq_false (by omega : ¬ (k : Int) < (R.1.2.length : Int))]; rfl) fz (([] : List (List Int)),0) ⟨0,rfl,Nat.zero_le _,by simp,(fun z hz => by cases hz),fun z _ j _ hj => absurd hj (by omega)⟩ (by unfold fz; simp only; omega)
   exact ⟨out,e,k1,k2,k3⟩
  obtain ⟨out,e,k1,k2,k3⟩:=key
  refine ⟨out,?_,k1,k2,k3⟩
  rw [Ju,B4]
  rw [show ((n : Int) == (q.2.1.length : Int)) = false by rw [beq_eq_false_iff_ne]; omega,cond_false,Aj hlt,AE,Qy h,AE,hR,e]; rfl
theorem bY (h : Iu d) (hs : smQ q) : ∃ r,BZ d q = some r ∧ (J7 d q = false -> r = (0,[])) ∧ (J7 d q = true -> ∃ out,out.length <= 65536 ∧ (∀ z,z ∈ out ↔ IsB d q z) ∧ r = (nrB q.1 out).1):=by
 unfold BZ
 rw [OU h hs,AE]
 cases hq : J7 d q with
 | false => exact ⟨(0,[]),rfl,fun _ => rfl,fun h => by cases h⟩
 | true =>
  obtain ⟨g1,g2,g3⟩:=HT hq
  obtain ⟨q1,q2,-,q4⟩:=Hv g1
  have hrow : Al (CQ q) fz ([] : List Int) = some (List.replicate q.1.toNat (-1)):=by
   refine Ed (body:=CQ q) (out:=List.replicate q.1.toNat (-1)) (fun k => List.replicate k (-1)) q.1.toNat (fun k hk rec => ?_) (fun rec => ?_) fz (by unfold fz; omega)
   ·rw [CQ]
    rw [List.length_replicate,decide_eq_true (by omega : (k : Int) < q.1),cond_true,Ak (by simp only [List.length_singleton]; unfold lim; omega),List.replicate_succ']
   ·rw [CQ]
    rw [List.length_replicate,decide_eq_false (by omega : ¬ ((q.1.toNat : Nat) : Int) < q.1)]; rfl
  obtain ⟨out,e,o1,o2,o3⟩:=Vs h hq q.2.1.length 0 (by omega) (List.replicate q.1.toNat (-1)) fz (by rw [List.length_replicate]; omega) (by unfold fz; omega)
  have e : Lh d q 0 (List.replicate q.1.toNat (-1)) = some out:=e
  have h16 : 16 ^ q.2.1.length <= 65536:=by
   have:=Nat.pow_le_pow_right (show 0 < 16 by decide) g3
   exact this
  have hlen : ∀ z ∈ out,(z.length : Int) = q.1:=fun z hz => by have:=(o2 z hz).1; rw [List.length_replicate] at this; omega
  rw [Bool.not_true,cond_false,hrow,AE,e,AE,ZD ⟨by unfold lim; omega,fun z hz => by have:=hlen z hz; unfold lim; omega⟩,AE]
  refine ⟨(nrB q.1 out).1,?_,fun h => (by cases h),fun _ => ⟨out,by omega,fun z => ⟨fun hz => ⟨hlen z hz,fun a ha => ?_⟩,fun hz => o3 z ⟨?_,fun v h0 h1 => ?_,fun i hi _ => hz.2 _ (List.getElem_mem hi)⟩⟩,rfl⟩⟩
  ·unfold nrB
   cases AU out fun _ x => Kk q.1 x with
   | true => rfl
   | false =>
    cases Fi (q.1,sortB out) with
    | false => rfl
    | true => rfl
  ·obtain ⟨i,hi,rfl⟩:=List.mem_iff_getElem.1 ha
   exact (o2 z hz).2.2 i hi (Nat.zero_le _)
  ·rw [List.length_replicate]; have:=hz.1; omega
  ·rw [List.length_replicate] at h1
   obtain ⟨k,rfl⟩:=Int.eq_ofNat_of_zero_le h0
   right
   refine ⟨by rw [Gb (by rw [List.length_replicate]; omega),List.getElem_replicate],?_⟩
   unfold Oc at g1
   simp only [Bool.and_eq_true,Bool.not_eq_true'] at g1
   have hu:=List.any_eq_false.1 g1.2.2.2.2 k (List.mem_range.2 (by omega))
   simp only [Bool.not_eq_true',Bool.not_eq_false] at hu
   unfold HH at hu
   obtain ⟨a,ha,hv⟩:=List.any_eq_true.1 hu
   obtain ⟨i,hi,rfl⟩:=List.mem_iff_getElem.1 ha
   exact ⟨i,hi,Nat.zero_le _,List.contains_iff_mem.1 hv⟩
end
end Go.Proofs.YtklcofndjkjldaaGreat
