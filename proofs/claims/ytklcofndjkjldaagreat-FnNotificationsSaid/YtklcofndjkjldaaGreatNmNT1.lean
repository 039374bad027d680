/-
 What is told sums to what is new: a view's result, changed, is the new view's result. On the printed functions; conditions: lengths.
-/
import Derived.Test.YtklcofndjkjldaaGreatNiNT1
namespace Go.Proofs.YtklcofndjkjldaaGreat
open Go.RowKit
set_option linter.unusedVariables false
set_option linter.unusedSimpArgs false
theorem N8 (z : Row) : ∀ a b : List Pr,CG (a ++ b) z = CG a z + CG b z
 | [],b => by rw [List.nil_append,CG]; omega
 | p :: a,b => by rw [List.cons_append,CG,CG,N8 z a b]; omega
theorem UH {l : List Pr} {z : Row} : z ∈ (keysL l).filter (nzB l) ↔ CG l z ≠ 0:=by
 rw [List.mem_filter]
 unfold nzB
 rw [bne_iff_ne]
 refine ⟨fun h => h.2,fun h => ⟨?_,h⟩⟩
 by_cases hz : z ∈ keysL l
 ·exact hz
 ·exact absurd (LZ fun p hp e => hz (H2.2 ⟨p,hp,e⟩)) h
theorem WG {a : Int} {l l' : List Pr} (h : ∀ z,CG l z = CG l' z) : KE a l = KE a l':=by
 have e : (keysL l).filter (nzB l) = (keysL l').filter (nzB l'):=SI ((I7 l).filter _) ((I7 l').filter _) fun z => by rw [UH,UH,h]
 unfold KE
 rw [e,List.map_congr_left fun z _ => h z]
theorem WP {K : List Row} (hK : K.Nodup) (f : Row -> Int) (z : Row) : CG (K.zip (K.map f)) z = if z ∈ K then f z else 0:=by
 by_cases hz : z ∈ K
 ·rw [if_pos hz]
  obtain ⟨i,hi,rfl⟩:=List.mem_iff_getElem.1 hz
  rw [RC hK (by rw [List.length_map]) i hi (by rw [List.length_map]; exact hi),List.getElem_map]
 ·rw [if_neg hz]
  exact LZ fun p hp e => hz (by
   obtain ⟨a,b⟩:=p
   have:=(List.of_mem_zip hp).1
   have e : a = z:=e
   rw [e] at this; exact this)
theorem WO (a : Int) (l : List Pr) (z : Row) : CG (prC (KE a l)) z = CG l z:=by
 have h:=WP (K:=(keysL l).filter (nzB l)) (SJ ((I7 l).filter _)) (CG l) z
 have e : prC (KE a l) = ((keysL l).filter (nzB l)).zip (((keysL l).filter (nzB l)).map (CG l)):=rfl
 rw [e,h]
 by_cases hz : z ∈ (keysL l).filter (nzB l)
 ·rw [if_pos hz]
 ·rw [if_neg hz]
  exact (Classical.byContradiction fun hne => hz (UH.2 fun h0 => hne h0.symm))
theorem QB {c : Cnt} (h : GK c = true) : KE c.1 (prC c) = c:=by
 obtain ⟨i1,i2⟩:=RM h
 have hnz : ∀ n ∈ c.2.2,n ≠ 0:=fun n hn => by
  unfold GK at h
  simp only [Bool.and_eq_true,Bool.not_eq_true'] at h
  have:=HN h.2.2 hn
  simp only [Bool.or_eq_false_iff,beq_eq_false_iff_ne] at this
  exact this.1
 have hf : (keysL (prC c)).filter (nzB (prC c)) = keysL (prC c):=List.filter_eq_self.2 fun z hz => by
  unfold nzB
  rw [bne_iff_ne]
  exact hnz _ (by rw [<- i2]; exact List.mem_map.2 ⟨z,hz,rfl⟩)
 unfold KE
 rw [hf,i2,i1]
theorem WN {c : Cnt} (h : GK c = true) (z : Row) : CG (prC (negC c)) z = - CG (prC c) z:=by
 have f7:=(B8 h).2.2.2.2.2.2
 have key : ∀ (K : List Row) (C : List Int),(∀ n ∈ C,-1000000 <= n ∧ n <= 1000000) -> CG (K.zip (C.map fun n => IntKind.i64.wrap (0 - n))) z = - CG (K.zip C) z:=by
  intro K
  induction K with
  | nil => intro C _; simp [CG]
  | cons k K ih =>
   intro C hC
   cases C with
   | nil => simp [CG]
   | cons n C =>
    have hn:=hC n (List.mem_cons_self ..)
    rw [List.map_cons,List.zip_cons_cons,List.zip_cons_cons,CG,CG,ih C fun m hm => hC m (List.mem_cons_of_mem _ hm),wrap_in (by omega)]
    simp only
    split <;> omega
 exact key c.2.1 c.2.2 f7
section
variable {d : List Tbl} {x : Dlt} {v : Vw}
theorem bH (h : Iu d) (hd : d.length < lim) (hx : smD x) (hq : smQ v.1) (hz : zOf d v.1 = (v.2,true)) (hok : Mu d x v = true) : zOf (En d x).1 v.1 = (newC d x v,true):=by
 unfold Mu at hok
 rw [Bool.and_eq_true] at hok
 obtain ⟨h1,h2⟩:=hok
 have hc : vdR d v.1 x = Lk (zOf (En d x).1 v.1).1 (negC v.2) ∧ (zOf (En d x).1 v.1).2 = true:=by
  unfold vdR at h1 ⊢
  rw [hz] at h1 ⊢
  cases hb : ((En d x).2 && ((v.2,true).2 && (zOf (En d x).1 v.1).2)) with
  | false => rw [hb] at h1; cases h1
  | true =>
   simp only [Bool.and_eq_true] at hb
   exact ⟨rfl,hb.2.2⟩
 obtain ⟨c1,c2⟩:=hc
 obtain ⟨A,hA⟩ : ∃ A,A = (zOf (En d x).1 v.1).1:=⟨_,rfl⟩
 rw [<- hA] at c1
 obtain ⟨-,-,-,z4,-⟩:=Zx (L7 h hd hx) hq
 have hAv : GK A = true:=by rw [hA]; exact (z4 c2).1
 rw [c1] at h1
 obtain ⟨-,a2,a3,a4,a5⟩:=Nj h1
 unfold newC
 rw [c1] at h2 ⊢
 obtain ⟨b1,b2,b3,b4,b5⟩:=Nj h2
 have har : v.2.1 = A.1:=by rw [b3,a5]; rfl
 have key : (Lk v.2 (Lk A (negC v.2)).1).1 = A:=by
  rw [b5,har,<- QB hAv]
  refine WG fun z => ?_
  have e1 : CG (Ga v.2 (Lk A (negC v.2)).1) z = CG (prC v.2) z + CG (prC (Lk A (negC v.2)).1) z:=N8 z _ _
  have e2 : CG (Ga A (negC v.2)) z = CG (prC A) z + CG (prC (negC v.2)) z:=N8 z _ _
  rw [QB hAv]
  rw [e1,a5,WO,e2,WN b1]
  omega
 rw [key,hA]
 exact Prod.ext rfl c2
end
end Go.Proofs.YtklcofndjkjldaaGreat
