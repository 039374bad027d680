/-
 ApplyDelta: the reference and the program give the same. On the printed functions; conditions: lengths.
-/
import Derived.Test.YtklcofndjkjldaaGreatSrNT1
import Derived.Test.YtklcofndjkjldaaGreatNrNT1
import Derived.Test.YtklcofndjkjldaaGreatFhNT1
namespace Go.Proofs.YtklcofndjkjldaaGreat
open Go.RowKit
set_option linter.unusedVariables false
set_option linter.unusedSimpArgs false
theorem KD {r : Rln} (h : Fi r = true) (p : Row -> Bool) : Fi (r.1,r.2.filter p) = true:=by
 obtain ⟨h1,h2,h3,h4⟩:=(G7 r).1 h
 exact (G7 _).2 ⟨h1,Nat.le_trans (List.length_filter_le p r.2) h2,fun x hx => h3 x (List.mem_filter.1 hx).1,h4.filter p⟩
theorem F1 {r : Rln} (h : Fi r = true) : A9 r.2:=by
 obtain ⟨h1,h2,h3,h4⟩:=(G7 r).1 h
 exact ⟨by unfold lim; omega,fun x hx => by have:=(h3 x hx).1; unfold lim; omega⟩
theorem P9 {B : (Int × Int -> Option Int) -> Int × Int -> Option Int} {rows : List Row} {row : Row} (hs : Srt rows) (hl : rows.length <= lim)
  (h1 : ∀ rec (lo hi m : Nat),lo < hi -> hi <= rows.length -> m = (lo + hi) / 2 -> ∀ hm : m < rows.length,B rec ((lo : Int),(hi : Int)) = cond (decide (EJ rows[m] row < 0)) (rec (((m + 1 : Nat) : Int),(hi : Int))) (rec ((lo : Int),(m : Int))))
  (h2 : ∀ rec (lo : Nat),B rec ((lo : Int),(lo : Int)) = some (lo : Int)) :
  ∃ k : Nat,k <= rows.length ∧ Al B fz (0,(rows.length : Int)) = some (k : Int) ∧ (∀ i (hi : i < rows.length),i < k -> EJ rows[i] row < 0) ∧ ∀ i (hi : i < rows.length),k <= i -> ¬ EJ rows[i] row < 0:=by
 have key : ∀ d (lo hi : Nat),hi - lo <= d -> lo <= hi -> hi <= rows.length -> (∀ i (hi : i < rows.length),i < lo -> EJ rows[i] row < 0) -> (∀ i (hi' : i < rows.length),hi <= i -> ¬ EJ rows[i] row < 0) -> ∀ m,d < m ->
   ∃ k : Nat,k <= rows.length ∧ Al B m ((lo : Int),(hi : Int)) = some (k : Int) ∧ (∀ i (hi : i < rows.length),i < k -> EJ rows[i] row < 0) ∧ ∀ i (hi : i < rows.length),k <= i -> ¬ EJ rows[i] row < 0:=by
  intro d
  induction d with
  | zero =>
   intro lo hi h3 h4 h5 h6 h7 m hm
   have : lo = hi:=by omega
   subst this
   cases m with
   | zero => omega
   | succ m => exact ⟨lo,h5,h2 _ lo,h6,h7⟩
  | succ d ih =>
   intro lo hi h3 h4 h5 h6 h7 m hm
   cases m with
   | zero => omega
   | succ m =>
    rcases Nat.lt_or_ge lo hi with hlt | hge
    ·have hmid : (lo + hi) / 2 < rows.length:=by omega
     show ∃ k : Nat,k <= rows.length ∧ B (Al B m) _ = _ ∧ _
     rw [h1 _ lo hi _ hlt h5 rfl hmid]
     by_cases hc : EJ rows[(lo + hi) / 2] row < 0
     ·rw [decide_eq_true hc]
      refine ih ((lo + hi) / 2 + 1) hi (by omega) (by omega) h5 (fun i hi' hik => ?_) h7 m (by omega)
      rcases Nat.lt_or_ge i ((lo + hi) / 2) with h8 | h8
      ·exact Hk (List.pairwise_iff_getElem.1 hs i _ hi' hmid h8) hc
      ·have : i = (lo + hi) / 2:=by omega
       subst this
       exact hc
     ·rw [decide_eq_false hc]
      refine ih lo ((lo + hi) / 2) (by omega) (by omega) (by omega) h6 (fun i hi' hik => ?_) m (by omega)
      rcases Nat.lt_or_ge ((lo + hi) / 2) i with h8 | h8
      ·intro h9
       exact hc (Hk (List.pairwise_iff_getElem.1 hs _ i hmid hi' h8) h9)
      ·have : i = (lo + hi) / 2:=by omega
       subst this
       exact hc
    ·have : lo = hi:=by omega
     subst this
     exact ⟨lo,h5,h2 _ lo,h6,h7⟩
 exact key rows.length 0 rows.length (by omega) (by omega) (Nat.le_refl _) (fun i _ h => by omega) (fun i h h' => by omega) fz (Ii hl)
theorem Sy {rows : List Row} {row : Row} (hs : Srt rows) {k : Nat} (hk : k <= rows.length) (h1 : ∀ i (hi : i < rows.length),i < k -> EJ rows[i] row < 0) (h2 : ∀ i (hi : i < rows.length),k <= i -> ¬ EJ rows[i] row < 0) :
  (atB rows k fun x => EJ x row == 0) = rows.contains row:=by
 rw [Bool.eq_iff_iff,List.contains_iff_mem]
 constructor
 ·intro h
  rcases Nat.lt_or_ge k rows.length with hlt | hge
  ·rw [AN hlt,beq_iff_eq] at h
   rw [<- JJ h]
   exact List.getElem_mem hlt
  ·unfold atB at h; rw [List.getElem?_eq_none hge] at h; cases h
 ·intro h
  obtain ⟨j,hj,rfl⟩:=List.mem_iff_getElem.1 h
  have hkj : ¬ j < k:=fun h3 => by have:=h1 j hj h3; rw [JI] at this; omega
  have hlt : k < rows.length:=by omega
  rw [AN hlt,beq_iff_eq]
  rcases Nat.lt_or_ge k j with h3 | h3
  ·exact absurd (List.pairwise_iff_getElem.1 hs k j hlt hj h3) (h2 k hlt (Nat.le_refl _))
  ·have : k = j:=by omega
   subst this
   exact JI _
theorem PE {r : Rln} {row : Row} (hs : Srt r.2) (hr : A9 r.2) : ∃ k : Nat,k <= r.2.length ∧ Fn r row = some ((k : Int),r.2.contains row) ∧ (∀ i (hi : i < r.2.length),i < k -> EJ r.2[i] row < 0) ∧ ∀ i (hi : i < r.2.length),k <= i -> ¬ EJ r.2[i] row < 0:=by
 obtain ⟨k,hk,hl,h1,h2⟩:=P9 (B:=Gp r row) (row:=row) hs hr.1 (fun rec lo hi m h1 h2 h3 hm => by
  have:=hr.1
  unfold lim at this
  simp only [Gp]
  have hlh : (lo : Int) + (hi : Int) <= 2199023255552:=by omega
  have e1 : IntKind.i64.wrap ((lo : Int) + (hi : Int)) = ((lo + hi : Nat) : Int):=by rw [wrap_in ⟨by omega,by omega⟩]; omega
  have e2 : IntKind.i64.wrap (Int.tdiv ((lo + hi : Nat) : Int) 2) = ((m : Nat) : Int):=by
   have e3 : Int.tdiv ((lo + hi : Nat) : Int) 2 = (((lo + hi) / 2 : Nat) : Int):=by rw [Int.tdiv_eq_ediv_of_nonneg (by omega)]; omega
   rw [e3,<- h3,wrap_in ⟨by omega,by omega⟩]
  rw [decide_eq_true (by omega),e1,e2,Aj hm]
  simp only [cond_true,Ad]
  rw [Ol (hr.2 _ (List.getElem_mem hm))]
  simp only
  rw [wrap_in (by omega)]
  simp) (fun rec lo => by simp only [Gp]; rw [Az]; rfl)
 unfold Fn
 rw [hl]
 simp only [Ad]
 have hp:=Sy (row:=row) hs hk h1 h2
 rcases Nat.lt_or_ge k r.2.length with hlt | hge
 ·rw [AF hlt,Aj hlt]
  simp only [cond_true,Ol (hr.2 _ (List.getElem_mem hlt)),Gq]
  rw [AN hlt] at hp
  exact ⟨k,hk,by rw [hp],h1,h2⟩
 ·rw [decide_eq_false (by omega)]
  have : (atB r.2 k fun x => EJ x row == 0) = false:=by unfold atB; rw [List.getElem?_eq_none hge]
  rw [this] at hp
  exact ⟨k,hk,by rw [<- hp]; rfl,h1,h2⟩
theorem Zh {r : Rln} {row : Row} (hs : Srt r.2) (hr : A9 r.2) : ∃ z,Fn r row = some (z,r.2.contains row) :=
 let ⟨k,_,h,_⟩:=PE (row:=row) hs hr
 ⟨_,h⟩
theorem Sb {rows : List Row} {row : Row} (hs : Srt rows) (hr : A9 rows) : ∃ k : Nat,k <= rows.length ∧ HR rows row = some ((k : Int),rows.contains row) ∧ (∀ i (hi : i < rows.length),i < k -> EJ rows[i] row < 0) ∧ ∀ i (hi : i < rows.length),k <= i -> ¬ EJ rows[i] row < 0:=by
 obtain ⟨k,hk,hl,h1,h2⟩:=P9 (B:=Hs rows row) (row:=row) hs hr.1 (fun rec lo hi m h1 h2 h3 hm => by
  have:=hr.1
  unfold lim at this
  simp only [Hs]
  have hlh : (lo : Int) + (hi : Int) <= 2199023255552:=by omega
  have e1 : IntKind.i64.wrap ((lo : Int) + (hi : Int)) = ((lo + hi : Nat) : Int):=by rw [wrap_in ⟨by omega,by omega⟩]; omega
  have e2 : IntKind.i64.wrap (Int.tdiv ((lo + hi : Nat) : Int) 2) = ((m : Nat) : Int):=by
   have e3 : Int.tdiv ((lo + hi : Nat) : Int) 2 = (((lo + hi) / 2 : Nat) : Int):=by rw [Int.tdiv_eq_ediv_of_nonneg (by omega)]; omega
   rw [e3,<- h3,wrap_in ⟨by omega,by omega⟩]
  rw [decide_eq_true (by omega),e1,e2,Aj hm]
  simp only [cond_true,Ad]
  rw [Tc (hr.2 _ (List.getElem_mem hm))]
  simp only
  rw [wrap_in (by omega)]
  simp) (fun rec lo => by simp only [Hs]; rw [Az]; rfl)
 unfold HR
 rw [hl]
 simp only [Ad]
 have hp:=Sy (row:=row) hs hk h1 h2
 rcases Nat.lt_or_ge k rows.length with hlt | hge
 ·rw [AF hlt,Aj hlt]
  simp only [cond_true,Tc (hr.2 _ (List.getElem_mem hlt)),Ht]
  rw [AN hlt] at hp
  exact ⟨k,hk,by rw [hp],h1,h2⟩
 ·rw [decide_eq_false (by omega)]
  have : (atB rows k fun x => EJ x row == 0) = false:=by unfold atB; rw [List.getElem?_eq_none hge]
  rw [this] at hp
  exact ⟨k,hk,by rw [<- hp]; rfl,h1,h2⟩
theorem Yk {rows : List Row} {row : Row} (hs : Srt rows) (hr : A9 rows) : ∃ z,HR rows row = some (z,rows.contains row) :=
 let ⟨k,_,h,_⟩:=Sb (row:=row) hs hr
 ⟨_,h⟩
theorem R9 {r : Rln} {row : Row} (h : Fi r = true) : Cw r row = some (r.2.contains row):=by
 obtain ⟨z,hz⟩:=Yk (row:=row) ((G7 r).1 h).2.2.2 (F1 h)
 unfold Cw
 rw [hz]
 simp only [Ad,MK (F1 h),h,cond_true,DI]
def MJ (a b : Rln) : Rln:=(a.1,a.2.filter fun x => !b.2.contains x)
def Of (a b : Rln) : Rln × Bool:=cond (Fi a && (Fi b && (a.1 == b.1))) (MJ a b,true) ((0,[]),false)
theorem Kc {α : Type} {l : List α} {k : Nat} (hk : k < l.length) (p : α -> Bool) : (l.take (k + 1)).filter p = (l.take k).filter p ++ cond (p l[k]) [l[k]] []:=by
 rw [List.take_succ_eq_append_getElem hk,List.filter_append]
 cases h : p l[k] <;> simp [h]
theorem I2 {α : Type} {l : List α} {k : Nat} (hk : k < l.length) (hl : l.length <= lim) (p : α -> Bool) (x : α) : ((l.take k).filter p).length + [x].length <= lim:=by
 have:=List.length_filter_le p (l.take k)
 rw [List.length_take] at this
 simp only [List.length_singleton]
 omega
theorem Lt {α : Type} {a : List α} {B : (List α × Int -> Option (List α)) -> List α × Int -> Option (List α)} (p : α -> Bool) (hl : a.length <= lim)
  (h1 : ∀ k (hk : k < a.length) rec,B rec ((a.take k).filter p,(k : Int)) = rec ((a.take k).filter p ++ cond (p a[k]) [a[k]] [],((k + 1 : Nat) : Int))) (h2 : ∀ rec y,B rec (y,(a.length : Int)) = some y) : Al B fz ([],0) = some (a.filter p):=by
 have:=Ed (body:=B) (out:=a.filter p) (fun k => ((a.take k).filter p,(k : Int))) a.length (fun k hk rec => by rw [h1 k hk,Kc hk]) (fun rec => by rw [h2,List.take_length]) fz (Ii hl)
 simpa using this
theorem Va {a b : Rln} (ha : A9 a.2) (hb : A9 b.2) : Cm a b = some (Of a b):=by
 unfold Cm Of
 simp only [MO ha,MO hb,Ad]
 cases hva : Fi a with
 | false => rfl
 | true =>
  cases hvb : Fi b with
  | false => rfl
  | true =>
   simp only [Bool.not_true,cond_false,Bool.true_and,bne]
   cases (a.1 == b.1) with
   | false => rfl
   | true =>
    simp only [Bool.not_true,cond_false,cond_true]
    rw [Lt (a:=a.2) (fun x => !b.2.contains x) ha.1 (fun k hk rec => by
     obtain ⟨z,hz⟩:=Zh (row:=a.2[k]) ((G7 b).1 hvb).2.2.2 hb
     have h3:=ha.2 _ (List.getElem_mem hk)
     simp only [Ez]
     rw [AF hk,Aj hk]
     simp only [cond_true,Ad,hz,EA,AO hk (At ha.1),List.nil_append]
     rw [Ak (by simpa using h3),Ak (I2 hk ha.1 _ _)]
     cases b.2.contains a.2[k] <;> simp) (fun rec y => by simp only [Ez]; rw [Az]; rfl)]
    rfl
theorem d5 {a b : Rln} (ha : A9 a.2) (hb : A9 b.2) : Ge a b = some (Of a b):=by
 unfold Ge Of
 simp only [MK ha,MK hb,Ad]
 cases hva : Fi a with
 | false => rfl
 | true =>
  cases hvb : Fi b with
  | false => rfl
  | true =>
   simp only [Bool.not_true,cond_false,Bool.true_and,bne]
   cases (a.1 == b.1) with
   | false => rfl
   | true =>
    simp only [Bool.not_true,cond_false,cond_true]
    rw [Lt (a:=a.2) (fun x => !b.2.contains x) ha.1 (fun k hk rec => by
     have h3:=ha.2 _ (List.getElem_mem hk)
     simp only [Ep]
     rw [AF hk,Aj hk]
     simp only [cond_true,Ad,R9 hvb,Er,AO hk (At ha.1),JM h3]
     rw [Ak (I2 hk ha.1 _ _)]
     cases b.2.contains a.2[k] <;> simp) (fun rec y => by simp only [Ep]; rw [Az]; rfl)]
    rfl
def unR (a b : Rln) : Rln × Bool:=cond (Fi a && (Fi b && (a.1 == b.1))) (nrB a.1 (a.2 ++ b.2)) ((0,[]),false)
theorem cB {a b : Rln} (ha : Fi a = true) (hb : Fi b = true) : A9 (a.2 ++ b.2):=by
 have h1:=((G7 a).1 ha).2.1
 have h2:=((G7 b).1 hb).2.1
 refine ⟨by rw [List.length_append]; unfold lim; omega,fun x hx => ?_⟩
 rcases List.mem_append.1 hx with hx | hx
 ·exact (F1 ha).2 x hx
 ·exact (F1 hb).2 x hx
theorem iY {a b : Rln} (ha : A9 a.2) (hb : A9 b.2) : Jy a b = some (unR a b):=by
 unfold Jy unR
 simp only [MO ha,MO hb,Ad]
 cases hva : Fi a with
 | false => rfl
 | true =>
  cases hvb : Fi b with
  | false => rfl
  | true =>
   have h1:=((G7 a).1 hva).2.1
   have h2:=((G7 b).1 hvb).2.1
   simp only [Bool.not_true,cond_false,Bool.true_and,bne]
   cases (a.1 == b.1) with
   | false => rfl
   | true =>
    simp only [Bool.not_true,cond_false,cond_true,List.nil_append]
    rw [Ak (by unfold lim; simp; omega),Ak (by unfold lim; omega),ZD (cB hva hvb)]
theorem iJ {a b : Rln} (ha : A9 a.2) (hb : A9 b.2) : Jr a b = some (unR a b):=by
 unfold Jr unR
 simp only [MK ha,MK hb,Ad]
 cases hva : Fi a with
 | false => rfl
 | true =>
  cases hvb : Fi b with
  | false => rfl
  | true =>
   have h1:=((G7 a).1 hva).2.1
   have h2:=((G7 b).1 hvb).2.1
   simp only [Bool.not_true,cond_false,Bool.true_and,bne]
   cases (a.1 == b.1) with
   | false => rfl
   | true =>
    simp only [Bool.not_true,cond_false,cond_true,Mk ha]
    rw [Ak (by unfold lim; omega),iI (cB hva hvb)]
abbrev Dlt:=List UInt8 × Rln × Rln
def smD (x : Dlt) : Prop:=x.1.length <= lim ∧ A9 x.2.1.2 ∧ A9 x.2.2.2
def VB (d : List Tbl) (x : Dlt) : Bool:=(BY d x.1).2 && (Fi x.2.1 && (Fi x.2.2 && ((x.2.1.1 == (BY d x.1).1.1) && (x.2.2.1 == (BY d x.1).1.1))))
theorem Uu {d : List Tbl} {nm : List UInt8} (h : (BY d nm).2 = true) : Fi (BY d nm).1 = true:=by
 unfold BY at *
 split at h
 ·rename_i hd
  rw [if_pos hd]
  cases hf : d.find? (fun t => t.1 == nm) with
  | none => rw [hf] at h; cases h
  | some t =>
   simp only
   have hm:=List.mem_of_find?_eq_some hf
   unfold dbB at hd
   simp only [Bool.and_eq_true,Bool.not_eq_true'] at hd
   obtain ⟨i,hi,rfl⟩:=List.mem_iff_getElem.1 hm
   have:=GX hd.2 hi
   unfold Kw at this
   simp only [Bool.or_eq_false_iff,Bool.not_eq_false',decide_eq_false_iff_not] at this
   exact this.1.1.2
 ·cases h
theorem M5 {d : List Tbl} (h : Iu d) (nm : List UInt8) : A9 (BY d nm).1.2:=by
 unfold BY
 split
 ·cases hf : d.find? (fun t => t.1 == nm) with
  | none => exact ⟨by simp,fun r hr => by cases hr⟩
  | some t => exact (h.2 t (List.mem_of_find?_eq_some hf)).2
 ·exact ⟨by simp,fun r hr => by cases hr⟩
def Iy (d : List Tbl) (x : Dlt) : Dlt × Bool :=
 let r:=(BY d x.1).1
 cond (VB d x) ((x.1,MJ x.2.1 r,(x.2.2.1,x.2.2.2.filter fun y => r.2.contains y && !x.2.1.2.contains y)),true) (([],(0,[]),(0,[])),false)
section
variable {d : List Tbl} {x : Dlt}
theorem NB (h : VB d x = true) : Fi (BY d x.1).1 = true ∧ Fi x.2.1 = true ∧ Fi x.2.2 = true ∧ x.2.1.1 = (BY d x.1).1.1 ∧ x.2.2.1 = (BY d x.1).1.1:=by
 simp only [VB,Bool.and_eq_true,beq_iff_eq] at h
 exact ⟨Uu h.1,h.2.1,h.2.2.1,h.2.2.2.1,h.2.2.2.2⟩
theorem ce (h : Iu d) (hx : smD x) : Io d x = some (VB d x):=by
 unfold Io
 simp only [Qy h,MO hx.2.1,MO hx.2.2,Ad,C7,VB]
 cases (BY d x.1).2 <;> cases Fi x.2.1 <;> cases Fi x.2.2 <;> cases (x.2.1.1 == (BY d x.1).1.1) <;> rfl
theorem am (h : Iu d) (hx : smD x) : Gg d x = some ((BY d x.1).1,VB d x):=by
 unfold Gg
 simp only [Sa h,MK hx.2.1,MK hx.2.2,Ad,Dc,Dd,VB]
 cases (BY d x.1).2 <;> cases Fi x.2.1 <;> cases Fi x.2.2 <;> cases (x.2.1.1 == (BY d x.1).1.1) <;> rfl
theorem cg (h : Iu d) (hx : smD x) : DS d x = some (Iy d x):=by
 unfold DS Iy
 rw [ce h hx]
 simp only [Ad]
 cases hf : VB d x with
 | false => rfl
 | true =>
  obtain ⟨f1,f2,f3,f4,f5⟩:=NB hf
  simp only [Bool.not_true,cond_false,cond_true,Qy h]
  generalize (BY d x.1).1 = r at f1 f4 f5
  have d1 : Of x.2.1 r = (MJ x.2.1 r,true):=by unfold Of; rw [f2,f1,f4]; simp
  have d2 : Of x.2.2 x.2.1 = (MJ x.2.2 x.2.1,true):=by unfold Of; rw [f3,f2,f5,f4]; simp
  have g1 : Fi (MJ x.2.2 x.2.1) = true:=KD f3 _
  have d3 : Of (MJ x.2.2 x.2.1) r = (MJ (MJ x.2.2 x.2.1) r,true):=by unfold Of; rw [g1,f1]; simp [MJ,f5]
  have g2 : Fi (MJ (MJ x.2.2 x.2.1) r) = true:=KD g1 _
  have d4 : Of (MJ x.2.2 x.2.1) (MJ (MJ x.2.2 x.2.1) r) = (MJ (MJ x.2.2 x.2.1) (MJ (MJ x.2.2 x.2.1) r),true):=by unfold Of; rw [g1,g2]; simp [MJ]
  rw [Va (F1 f2) (F1 f1),d1]
  simp only
  rw [Va (F1 f3) (F1 f2),d2]
  simp only
  rw [Va (F1 g1) (F1 f1),d3]
  simp only
  rw [Va (F1 g1) (F1 g2),d4]
  simp only
  have e : (MJ (MJ x.2.2 x.2.1) (MJ (MJ x.2.2 x.2.1) r)) = (x.2.2.1,x.2.2.2.filter fun y => r.2.contains y && !x.2.1.2.contains y):=by
   unfold MJ
   simp only [List.filter_filter]
   congr 1
   apply List.filter_congr
   intro y hy
   rw [Bool.eq_iff_iff]
   simp only [Bool.and_eq_true,Bool.not_eq_true',<- Bool.not_eq_true,List.contains_iff_mem,List.mem_filter]
   constructor
   ·rintro ⟨h1,h2⟩
    refine ⟨?_,h2⟩
    exact Classical.byContradiction fun h3 => h1 ⟨hy,h3,h2⟩
   ·rintro ⟨h1,h2⟩
    exact ⟨fun h3 => h3.2.1 h1,h2⟩
  rw [e]
theorem au (h : Iu d) (hx : smD x) : DJ d x = some (Iy d x):=by
 unfold DJ Iy
 rw [am h hx]
 simp only [Ad]
 cases hf : VB d x with
 | false => rfl
 | true =>
  obtain ⟨f1,f2,f3,f4,f5⟩:=NB hf
  simp only [Bool.not_true,cond_false,cond_true]
  rw [Lt (a:=x.2.1.2) (fun y => !(BY d x.1).1.2.contains y) hx.2.1.1 (fun k hk rec => by
   have h3:=hx.2.1.2 _ (List.getElem_mem hk)
   simp only [CB]
   rw [AF hk,Aj hk]
   simp only [cond_true,Ad,R9 f1,CC,AO hk (At hx.2.1.1),JM h3]
   rw [Ak (I2 hk hx.2.1.1 _ _)]
   cases (BY d x.1).1.2.contains x.2.1.2[k] <;> simp) (fun rec y => by simp only [CB]; rw [Az]; rfl)]
  simp only
  rw [Lt (a:=x.2.2.2) (fun y => (BY d x.1).1.2.contains y && !x.2.1.2.contains y) hx.2.2.1 (fun k hk rec => by
   have h3:=hx.2.2.2 _ (List.getElem_mem hk)
   simp only [BU]
   rw [AF hk,Aj hk]
   simp only [cond_true,Ad,R9 f1,R9 f2,CD,CE,AO hk (At hx.2.2.1),JM h3]
   rw [Ak (I2 hk hx.2.2.1 _ _)]
   cases (BY d x.1).1.2.contains x.2.2.2[k] <;> cases x.2.1.2.contains x.2.2.2[k] <;> simp) (fun rec y => by simp only [BU]; rw [Az]; rfl)]
  simp only [MJ,f4,f5]
def En (d : List Tbl) (x : Dlt) : List Tbl × Bool :=
 let y:=Iy d x
 cond (!y.2) (d,false) (let u:=unR (Of (BY d x.1).1 y.1.2.2).1 y.1.2.1; cond (!u.2) (d,false) (setB d x.1 u.1))
theorem Zu {a b : Rln} : A9 (unR a b).1.2 ∧ ((unR a b).2 = true -> Fi (unR a b).1 = true):=by
 unfold unR nrB
 cases (Fi a && (Fi b && (a.1 == b.1))) with
 | false => exact ⟨⟨by simp [lim],fun r hr => by cases hr⟩,fun h => by cases h⟩
 | true =>
  simp only [cond_true]
  cases AU (a.2 ++ b.2) fun _ x => Kk a.1 x with
  | true => exact ⟨⟨by simp [lim],fun r hr => by cases hr⟩,fun h => by cases h⟩
  | false =>
   simp only [cond_false]
   cases hr : Fi (a.1,sortB (a.2 ++ b.2)) with
   | false => exact ⟨⟨by simp [lim],fun r hr => by cases hr⟩,fun h => by cases h⟩
   | true => exact ⟨F1 hr,fun _ => hr⟩
theorem UG (h : Iu d) (hx : smD x) : A9 (Iy d x).1.2.1.2 ∧ A9 (Iy d x).1.2.2.2:=by
 unfold Iy
 cases hf : VB d x with
 | false => exact ⟨⟨by simp [lim],fun r hr => by cases hr⟩,⟨by simp [lim],fun r hr => by cases hr⟩⟩
 | true =>
  obtain ⟨f1,f2,f3,f4,f5⟩:=NB hf
  exact ⟨F1 (KD f2 _),F1 (KD f3 _)⟩
theorem W6 {a b : Rln} (ha : A9 a.2) : A9 (Of a b).1.2:=by
 unfold Of
 cases (Fi a && (Fi b && (a.1 == b.1))) with
 | false => exact ⟨by simp [lim],fun r hr => by cases hr⟩
 | true => exact ⟨Nat.le_trans (List.length_filter_le _ _) ha.1,fun y hy => ha.2 y (List.mem_filter.1 hy).1⟩
theorem Za (h : Iu d) (hd : d.length < lim) (hx : smD x) : DN d x = some (En d x):=by
 unfold DN En
 obtain ⟨n1,n2⟩:=UG h hx
 rw [cg h hx]
 simp only [Ad,Qy h,N1 h]
 cases (Iy d x).2 with
 | false => rfl
 | true =>
  simp only [Bool.not_true,cond_false]
  rw [Va (M5 h _) n2]
  simp only
  rw [iY (W6 (M5 h _)) n1]
  simp only
  cases hu : (unR (Of (BY d x.1).1 (Iy d x).1.2.2).1 (Iy d x).1.2.1).2 with
  | false => rfl
  | true =>
   simp only [Bool.not_true,cond_false]
   rw [ci h hd hx.1 Zu.1]
theorem ai (h : Iu d) (hd : d.length < lim) (hx : smD x) : E1 d x = some (En d x):=by
 unfold E1 En
 obtain ⟨n1,n2⟩:=UG h hx
 rw [au h hx]
 simp only [Ad,Sa h,NF h]
 cases (Iy d x).2 with
 | false => rfl
 | true =>
  simp only [Bool.not_true,cond_false]
  rw [d5 (M5 h _) n2]
  simp only
  rw [iJ (W6 (M5 h _)) n1]
  simp only
  cases hu : (unR (Of (BY d x.1).1 (Iy d x).1.2.2).1 (Iy d x).1.2.1).2 with
  | false => rfl
  | true =>
   simp only [Bool.not_true,cond_false]
   rw [az h hd hx.1 Zu.1]
theorem TE (h : (En d x).2 = true) : dbB (En d x).1 = true:=by
 unfold En at *
 simp only at h ⊢
 cases h1 : (Iy d x).2 with
 | false => rw [h1] at h; cases h
 | true =>
  rw [h1] at h
  simp only [Bool.not_true,cond_false] at h ⊢
  cases hu : (unR (Of (BY d x.1).1 (Iy d x).1.2.2).1 (Iy d x).1.2.1).2 with
  | false => rw [hu] at h; cases h
  | true =>
   rw [hu] at h
   simp only [Bool.not_true,cond_false] at h ⊢
   exact (Zk h).2.1
end
end Go.Proofs.YtklcofndjkjldaaGreat
