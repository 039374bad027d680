/-
 ApplyDelta: the reference and the program give the same. On the printed functions; conditions: lengths.
-/
import Derived.Test.YtpcbnmcfplioeaaGreatSrNC1
import Derived.Test.YtpcbnmcfplioeaaGreatNrNC1
import Derived.Test.YtpcbnmcfplioeaaGreatFhNC1
namespace Go.Proofs.YtpcbnmcfplioeaaGreat
open Go.RowKit
set_option linter.unusedVariables false
set_option linter.unusedSimpArgs false
theorem Mk {r : Rln} (h : FZ r = true) (p : Row -> Bool) : FZ (r.1,r.2.filter p) = true:=by
 obtain ⟨h1,h2,h3,h4⟩:=(HS r).1 h
 exact (HS _).2 ⟨h1,Nat.le_trans (List.length_filter_le p r.2) h2,fun x hx => h3 x (List.mem_filter.1 hx).1,h4.filter p⟩
theorem G3 {r : Rln} (h : FZ r = true) : Bl r.2:=by
 obtain ⟨h1,h2,h3,h4⟩:=(HS r).1 h
 exact ⟨by unfold lim; omega,fun x hx => by have:=(h3 x hx).1; unfold lim; omega⟩
theorem S9 {B : (Int × Int -> Option Int) -> Int × Int -> Option Int} {rows : List Row} {row : Row} (hs : Srt rows) (hl : rows.length <= lim)
  (h1 : ∀ rec (lo hi m : Nat),lo < hi -> hi <= rows.length -> m = (lo + hi) / 2 -> ∀ hm : m < rows.length,B rec ((lo : Int),(hi : Int)) = cond (decide (ET rows[m] row < 0)) (rec (((m + 1 : Nat) : Int),(hi : Int))) (rec ((lo : Int),(m : Int))))
  (h2 : ∀ rec (lo : Nat),B rec ((lo : Int),(lo : Int)) = some (lo : Int)) :
  ∃ k : Nat,k <= rows.length ∧ Ao B fz (0,(rows.length : Int)) = some (k : Int) ∧ (∀ i (hi : i < rows.length),i < k -> ET rows[i] row < 0) ∧ ∀ i (hi : i < rows.length),k <= i -> ¬ ET rows[i] row < 0:=by
 have key : ∀ d (lo hi : Nat),hi - lo <= d -> lo <= hi -> hi <= rows.length -> (∀ i (hi : i < rows.length),i < lo -> ET rows[i] row < 0) -> (∀ i (hi' : i < rows.length),hi <= i -> ¬ ET rows[i] row < 0) -> ∀ m,d < m ->
   ∃ k : Nat,k <= rows.length ∧ Ao B m ((lo : Int),(hi : Int)) = some (k : Int) ∧ (∀ i (hi : i < rows.length),i < k -> ET rows[i] row < 0) ∧ ∀ i (hi : i < rows.length),k <= i -> ¬ ET rows[i] row < 0:=by
  intro d
  induction d with
  | zero =>
   intro lo hi h3 h4 h5 h6 h7 m hm
   have : lo = hi:=by omega
   subst this
   cases m with
   | zero => omega
   | succ m => exact ⟨lo,h5,h2 _ lo,h6,h7⟩
  | succ d ih =>
   intro lo hi h3 h4 h5 h6 h7 m hm
   cases m with
   | zero => omega
   | succ m =>
    rcases Nat.lt_or_ge lo hi with hlt | hge
    ·have hmid : (lo + hi) / 2 < rows.length:=by omega
     show ∃ k : Nat,k <= rows.length ∧ B (Ao B m) _ = _ ∧ _
     rw [h1 _ lo hi _ hlt h5 rfl hmid]
     by_cases hc : ET rows[(lo + hi) / 2] row < 0
     ·rw [decide_eq_true hc]
      refine ih ((lo + hi) / 2 + 1) hi (by omega) (by omega) h5 (fun i hi' hik => ?_) h7 m (by omega)
      rcases Nat.lt_or_ge i ((lo + hi) / 2) with h8 | h8
      ·exact HG (List.pairwise_iff_getElem.1 hs i _ hi' hmid h8) hc
      ·have : i = (lo + hi) / 2:=by omega
       subst this
       exact hc
     ·rw [decide_eq_false hc]
      refine ih lo ((lo + hi) / 2) (by omega) (by omega) (by omega) h6 (fun i hi' hik => ?_) m (by omega)
      rcases Nat.lt_or_ge ((lo + hi) / 2) i with h8 | h8
      ·intro h9
       exact hc (HG (List.pairwise_iff_getElem.1 hs _ i hmid hi' h8) h9)
      ·have : i = (lo + hi) / 2:=by omega
       subst this
       exact hc
    ·have : lo = hi:=by omega
     subst this
     exact ⟨lo,h5,h2 _ lo,h6,h7⟩
 exact key rows.length 0 rows.length (by omega) (by omega) (Nat.le_refl _) (fun i _ h => by omega) (fun i h h' => by omega) fz (HP hl)
theorem VH {rows : List Row} {row : Row} (hs : Srt rows) {k : Nat} (hk : k <= rows.length) (h1 : ∀ i (hi : i < rows.length),i < k -> ET rows[i] row < 0) (h2 : ∀ i (hi : i < rows.length),k <= i -> ¬ ET rows[i] row < 0) :
  (atB rows k fun x => ET x row == 0) = rows.contains row:=by
 rw [Bool.eq_iff_iff,List.contains_iff_mem]
 constructor
 ·intro h
  rcases Nat.lt_or_ge k rows.length with hlt | hge
  ·rw [AY hlt,beq_iff_eq] at h
   rw [<- K0 h]
   exact List.getElem_mem hlt
  ·unfold atB at h; rw [List.getElem?_eq_none hge] at h; cases h
 ·intro h
  obtain ⟨j,hj,rfl⟩:=List.mem_iff_getElem.1 h
  have hkj : ¬ j < k:=fun h3 => by have:=h1 j hj h3; rw [KZ] at this; omega
  have hlt : k < rows.length:=by omega
  rw [AY hlt,beq_iff_eq]
  rcases Nat.lt_or_ge k j with h3 | h3
  ·exact absurd (List.pairwise_iff_getElem.1 hs k j hlt hj h3) (h2 k hlt (Nat.le_refl _))
  ·have : k = j:=by omega
   subst this
   exact KZ _
theorem VN {r : Rln} {row : Row} (hs : Srt r.2) (hr : Bl r.2) : ∃ k : Nat,k <= r.2.length ∧ GJ r row = some ((k : Int),r.2.contains row) ∧ (∀ i (hi : i < r.2.length),i < k -> ET r.2[i] row < 0) ∧ ∀ i (hi : i < r.2.length),k <= i -> ¬ ET r.2[i] row < 0:=by
 obtain ⟨k,hk,hl,h1,h2⟩:=S9 (B:=GK r row) (row:=row) hs hr.1 (fun rec lo hi m h1 h2 h3 hm => by
  have:=hr.1
  unfold lim at this
  simp only [GK]
  have hlh : (lo : Int) + (hi : Int) <= 2199023255552:=by omega
  have e1 : IntKind.i64.wrap ((lo : Int) + (hi : Int)) = ((lo + hi : Nat) : Int):=by rw [wrap_in ⟨by omega,by omega⟩]; omega
  have e2 : IntKind.i64.wrap (Int.tdiv ((lo + hi : Nat) : Int) 2) = ((m : Nat) : Int):=by
   have e3 : Int.tdiv ((lo + hi : Nat) : Int) 2 = (((lo + hi) / 2 : Nat) : Int):=by rw [Int.tdiv_eq_ediv_of_nonneg (by omega)]; omega
   rw [e3,<- h3,wrap_in ⟨by omega,by omega⟩]
  rw [decide_eq_true (by omega),e1,e2,Am hm]
  simp only [cond_true,Ad]
  rw [TC (hr.2 _ (List.getElem_mem hm))]
  simp only
  rw [wrap_in (by omega)]
  simp) (fun rec lo => by simp only [GK]; rw [AG]; rfl)
 unfold GJ
 rw [hl]
 simp only [Ad]
 have hp:=VH (row:=row) hs hk h1 h2
 rcases Nat.lt_or_ge k r.2.length with hlt | hge
 ·rw [AL hlt,Am hlt]
  simp only [cond_true,TC (hr.2 _ (List.getElem_mem hlt)),GL]
  rw [AY hlt] at hp
  exact ⟨k,hk,by rw [hp],h1,h2⟩
 ·rw [decide_eq_false (by omega)]
  have : (atB r.2 k fun x => ET x row == 0) = false:=by unfold atB; rw [List.getElem?_eq_none hge]
  rw [this] at hp
  exact ⟨k,hk,by rw [<- hp]; rfl,h1,h2⟩
theorem eI {r : Rln} {row : Row} (hs : Srt r.2) (hr : Bl r.2) : ∃ z,GJ r row = some (z,r.2.contains row) :=
 let ⟨k,_,h,_⟩:=VN (row:=row) hs hr
 ⟨_,h⟩
theorem Vk {rows : List Row} {row : Row} (hs : Srt rows) (hr : Bl rows) : ∃ k : Nat,k <= rows.length ∧ H7 rows row = some ((k : Int),rows.contains row) ∧ (∀ i (hi : i < rows.length),i < k -> ET rows[i] row < 0) ∧ ∀ i (hi : i < rows.length),k <= i -> ¬ ET rows[i] row < 0:=by
 obtain ⟨k,hk,hl,h1,h2⟩:=S9 (B:=HK rows row) (row:=row) hs hr.1 (fun rec lo hi m h1 h2 h3 hm => by
  have:=hr.1
  unfold lim at this
  simp only [HK]
  have hlh : (lo : Int) + (hi : Int) <= 2199023255552:=by omega
  have e1 : IntKind.i64.wrap ((lo : Int) + (hi : Int)) = ((lo + hi : Nat) : Int):=by rw [wrap_in ⟨by omega,by omega⟩]; omega
  have e2 : IntKind.i64.wrap (Int.tdiv ((lo + hi : Nat) : Int) 2) = ((m : Nat) : Int):=by
   have e3 : Int.tdiv ((lo + hi : Nat) : Int) 2 = (((lo + hi) / 2 : Nat) : Int):=by rw [Int.tdiv_eq_ediv_of_nonneg (by omega)]; omega
   rw [e3,<- h3,wrap_in ⟨by omega,by omega⟩]
  rw [decide_eq_true (by omega),e1,e2,Am hm]
  simp only [cond_true,Ad]
  rw [Wl (hr.2 _ (List.getElem_mem hm))]
  simp only
  rw [wrap_in (by omega)]
  simp) (fun rec lo => by simp only [HK]; rw [AG]; rfl)
 unfold H7
 rw [hl]
 simp only [Ad]
 have hp:=VH (row:=row) hs hk h1 h2
 rcases Nat.lt_or_ge k rows.length with hlt | hge
 ·rw [AL hlt,Am hlt]
  simp only [cond_true,Wl (hr.2 _ (List.getElem_mem hlt)),HL]
  rw [AY hlt] at hp
  exact ⟨k,hk,by rw [hp],h1,h2⟩
 ·rw [decide_eq_false (by omega)]
  have : (atB rows k fun x => ET x row == 0) = false:=by unfold atB; rw [List.getElem?_eq_none hge]
  rw [this] at hp
  exact ⟨k,hk,by rw [<- hp]; rfl,h1,h2⟩
theorem dc {rows : List Row} {row : Row} (hs : Srt rows) (hr : Bl rows) : ∃ z,H7 rows row = some (z,rows.contains row) :=
 let ⟨k,_,h,_⟩:=Vk (row:=row) hs hr
 ⟨_,h⟩
theorem Vi {r : Rln} {row : Row} (h : FZ r = true) : Cx r row = some (r.2.contains row):=by
 obtain ⟨z,hz⟩:=dc (row:=row) ((HS r).1 h).2.2.2 (G3 h)
 unfold Cx
 rw [hz]
 simp only [Ad,OQ (G3 h),h,cond_true,D0]
def OP (a b : Rln) : Rln:=(a.1,a.2.filter fun x => !b.2.contains x)
def RC (a b : Rln) : Rln × Bool:=cond (FZ a && (FZ b && (a.1 == b.1))) (OP a b,true) ((0,[]),false)
theorem LJ {α : Type} {l : List α} {k : Nat} (hk : k < l.length) (p : α -> Bool) : (l.take (k + 1)).filter p = (l.take k).filter p ++ cond (p l[k]) [l[k]] []:=by
 rw [List.take_succ_eq_append_getElem hk,List.filter_append]
 cases h : p l[k] <;> simp [h]
theorem J8 {α : Type} {l : List α} {k : Nat} (hk : k < l.length) (hl : l.length <= lim) (p : α -> Bool) (x : α) : ((l.take k).filter p).length + [x].length <= lim:=by
 have:=List.length_filter_le p (l.take k)
 rw [List.length_take] at this
 simp only [List.length_singleton]
 omega
theorem Np {α : Type} {a : List α} {B : (List α × Int -> Option (List α)) -> List α × Int -> Option (List α)} (p : α -> Bool) (hl : a.length <= lim)
  (h1 : ∀ k (hk : k < a.length) rec,B rec ((a.take k).filter p,(k : Int)) = rec ((a.take k).filter p ++ cond (p a[k]) [a[k]] [],((k + 1 : Nat) : Int))) (h2 : ∀ rec y,B rec (y,(a.length : Int)) = some y) : Ao B fz ([],0) = some (a.filter p):=by
 have:=DN (body:=B) (out:=a.filter p) (fun k => ((a.take k).filter p,(k : Int))) a.length (fun k hk rec => by rw [h1 k hk,LJ hk]) (fun rec => by rw [h2,List.take_length]) fz (HP hl)
 simpa using this
theorem YA {a b : Rln} (ha : Bl a.2) (hb : Bl b.2) : Ck a b = some (RC a b):=by
 unfold Ck RC
 simp only [QY ha,QY hb,Ad]
 cases hva : FZ a with
 | false => rfl
 | true =>
  cases hvb : FZ b with
  | false => rfl
  | true =>
   simp only [Bool.not_true,cond_false,Bool.true_and,bne]
   cases (a.1 == b.1) with
   | false => rfl
   | true =>
    simp only [Bool.not_true,cond_false,cond_true]
    rw [Np (a:=a.2) (fun x => !b.2.contains x) ha.1 (fun k hk rec => by
     obtain ⟨z,hz⟩:=eI (row:=a.2[k]) ((HS b).1 hvb).2.2.2 hb
     have h3:=ha.2 _ (List.getElem_mem hk)
     simp only [EK]
     rw [AL hk,Am hk]
     simp only [cond_true,Ad,hz,EL,AS hk (AA ha.1),List.nil_append]
     rw [Ap (by simpa using h3),Ap (J8 hk ha.1 _ _)]
     cases b.2.contains a.2[k] <;> simp) (fun rec y => by simp only [EK]; rw [AG]; rfl)]
    rfl
theorem mA {a b : Rln} (ha : Bl a.2) (hb : Bl b.2) : Gu a b = some (RC a b):=by
 unfold Gu RC
 simp only [OQ ha,OQ hb,Ad]
 cases hva : FZ a with
 | false => rfl
 | true =>
  cases hvb : FZ b with
  | false => rfl
  | true =>
   simp only [Bool.not_true,cond_false,Bool.true_and,bne]
   cases (a.1 == b.1) with
   | false => rfl
   | true =>
    simp only [Bool.not_true,cond_false,cond_true]
    rw [Np (a:=a.2) (fun x => !b.2.contains x) ha.1 (fun k hk rec => by
     have h3:=ha.2 _ (List.getElem_mem hk)
     simp only [EA]
     rw [AL hk,Am hk]
     simp only [cond_true,Ad,Vi hvb,EB,AS hk (AA ha.1),Lc h3]
     rw [Ap (J8 hk ha.1 _ _)]
     cases b.2.contains a.2[k] <;> simp) (fun rec y => by simp only [EA]; rw [AG]; rfl)]
    rfl
def unR (a b : Rln) : Rln × Bool:=cond (FZ a && (FZ b && (a.1 == b.1))) (nrB a.1 (a.2 ++ b.2)) ((0,[]),false)
theorem kU {a b : Rln} (ha : FZ a = true) (hb : FZ b = true) : Bl (a.2 ++ b.2):=by
 have h1:=((HS a).1 ha).2.1
 have h2:=((HS b).1 hb).2.1
 refine ⟨by rw [List.length_append]; unfold lim; omega,fun x hx => ?_⟩
 rcases List.mem_append.1 hx with hx | hx
 ·exact (G3 ha).2 x hx
 ·exact (G3 hb).2 x hx
theorem pY {a b : Rln} (ha : Bl a.2) (hb : Bl b.2) : KS a b = some (unR a b):=by
 unfold KS unR
 simp only [QY ha,QY hb,Ad]
 cases hva : FZ a with
 | false => rfl
 | true =>
  cases hvb : FZ b with
  | false => rfl
  | true =>
   have h1:=((HS a).1 hva).2.1
   have h2:=((HS b).1 hvb).2.1
   simp only [Bool.not_true,cond_false,Bool.true_and,bne]
   cases (a.1 == b.1) with
   | false => rfl
   | true =>
    simp only [Bool.not_true,cond_false,cond_true,List.nil_append]
    rw [Ap (by unfold lim; simp; omega),Ap (by unfold lim; omega),lC (kU hva hvb)]
theorem pG {a b : Rln} (ha : Bl a.2) (hb : Bl b.2) : KI a b = some (unR a b):=by
 unfold KI unR
 simp only [OQ ha,OQ hb,Ad]
 cases hva : FZ a with
 | false => rfl
 | true =>
  cases hvb : FZ b with
  | false => rfl
  | true =>
   have h1:=((HS a).1 hva).2.1
   have h2:=((HS b).1 hvb).2.1
   simp only [Bool.not_true,cond_false,Bool.true_and,bne]
   cases (a.1 == b.1) with
   | false => rfl
   | true =>
    simp only [Bool.not_true,cond_false,cond_true,P5 ha]
    rw [Ap (by unfold lim; omega),pF (kU hva hvb)]
abbrev Dlt:=List UInt8 × Rln × Rln
def smD (x : Dlt) : Prop:=x.1.length <= lim ∧ Bl x.2.1.2 ∧ Bl x.2.2.2
def Zb (d : List Tbl) (x : Dlt) : Bool:=(B8 d x.1).2 && (FZ x.2.1 && (FZ x.2.2 && ((x.2.1.1 == (B8 d x.1).1.1) && (x.2.2.1 == (B8 d x.1).1.1))))
theorem XS {d : List Tbl} {nm : List UInt8} (h : (B8 d nm).2 = true) : FZ (B8 d nm).1 = true:=by
 unfold B8 at *
 split at h
 ·rename_i hd
  rw [if_pos hd]
  cases hf : d.find? (fun t => t.1 == nm) with
  | none => rw [hf] at h; cases h
  | some t =>
   simp only
   have hm:=List.mem_of_find?_eq_some hf
   unfold dbB at hd
   simp only [Bool.and_eq_true,Bool.not_eq_true'] at hd
   obtain ⟨i,hi,rfl⟩:=List.mem_iff_getElem.1 hm
   have:=He hd.2 hi
   unfold Ma at this
   simp only [Bool.or_eq_false_iff,Bool.not_eq_false',decide_eq_false_iff_not] at this
   exact this.1.1.2
 ·cases h
theorem Pj {d : List Tbl} (h : KU d) (nm : List UInt8) : Bl (B8 d nm).1.2:=by
 unfold B8
 split
 ·cases hf : d.find? (fun t => t.1 == nm) with
  | none => exact ⟨by simp,fun r hr => by cases hr⟩
  | some t => exact (h.2 t (List.mem_of_find?_eq_some hf)).2
 ·exact ⟨by simp,fun r hr => by cases hr⟩
def KN (d : List Tbl) (x : Dlt) : Dlt × Bool :=
 let r:=(B8 d x.1).1
 cond (Zb d x) ((x.1,OP x.2.1 r,(x.2.2.1,x.2.2.2.filter fun y => r.2.contains y && !x.2.1.2.contains y)),true) (([],(0,[]),(0,[])),false)
section
variable {d : List Tbl} {x : Dlt}
theorem PZ (h : Zb d x = true) : FZ (B8 d x.1).1 = true ∧ FZ x.2.1 = true ∧ FZ x.2.2 = true ∧ x.2.1.1 = (B8 d x.1).1.1 ∧ x.2.2.1 = (B8 d x.1).1.1:=by
 simp only [Zb,Bool.and_eq_true,beq_iff_eq] at h
 exact ⟨XS h.1,h.2.1,h.2.2.1,h.2.2.2.1,h.2.2.2.2⟩
theorem kA (h : KU d) (hx : smD x) : IS d x = some (Zb d x):=by
 unfold IS
 simp only [TE h,QY hx.2.1,QY hx.2.2,Ad,Dm,Zb]
 cases (B8 d x.1).2 <;> cases FZ x.2.1 <;> cases FZ x.2.2 <;> cases (x.2.1.1 == (B8 d x.1).1.1) <;> rfl
theorem gJ (h : KU d) (hx : smD x) : Gw d x = some ((B8 d x.1).1,Zb d x):=by
 unfold Gw
 simp only [Vj h,OQ hx.2.1,OQ hx.2.2,Ad,Dp,Dq,Zb]
 cases (B8 d x.1).2 <;> cases FZ x.2.1 <;> cases FZ x.2.2 <;> cases (x.2.1.1 == (B8 d x.1).1.1) <;> rfl
theorem kB (h : KU d) (hx : smD x) : Eb d x = some (KN d x):=by
 unfold Eb KN
 rw [kA h hx]
 simp only [Ad]
 cases hf : Zb d x with
 | false => rfl
 | true =>
  obtain ⟨f1,f2,f3,f4,f5⟩:=PZ hf
  simp only [Bool.not_true,cond_false,cond_true,TE h]
  generalize (B8 d x.1).1 = r at f1 f4 f5
  have d1 : RC x.2.1 r = (OP x.2.1 r,true):=by unfold RC; rw [f2,f1,f4]; simp
  have d2 : RC x.2.2 x.2.1 = (OP x.2.2 x.2.1,true):=by unfold RC; rw [f3,f2,f5,f4]; simp
  have g1 : FZ (OP x.2.2 x.2.1) = true:=Mk f3 _
  have d3 : RC (OP x.2.2 x.2.1) r = (OP (OP x.2.2 x.2.1) r,true):=by unfold RC; rw [g1,f1]; simp [OP,f5]
  have g2 : FZ (OP (OP x.2.2 x.2.1) r) = true:=Mk g1 _
  have d4 : RC (OP x.2.2 x.2.1) (OP (OP x.2.2 x.2.1) r) = (OP (OP x.2.2 x.2.1) (OP (OP x.2.2 x.2.1) r),true):=by unfold RC; rw [g1,g2]; simp [OP]
  rw [YA (G3 f2) (G3 f1),d1]
  simp only
  rw [YA (G3 f3) (G3 f2),d2]
  simp only
  rw [YA (G3 g1) (G3 f1),d3]
  simp only
  rw [YA (G3 g1) (G3 g2),d4]
  simp only
  have e : (OP (OP x.2.2 x.2.1) (OP (OP x.2.2 x.2.1) r)) = (x.2.2.1,x.2.2.2.filter fun y => r.2.contains y && !x.2.1.2.contains y):=by
   unfold OP
   simp only [List.filter_filter]
   congr 1
   apply List.filter_congr
   intro y hy
   rw [Bool.eq_iff_iff]
   simp only [Bool.and_eq_true,Bool.not_eq_true',<- Bool.not_eq_true,List.contains_iff_mem,List.mem_filter]
   constructor
   ·rintro ⟨h1,h2⟩
    refine ⟨?_,h2⟩
    exact Classical.byContradiction fun h3 => h1 ⟨hy,h3,h2⟩
   ·rintro ⟨h1,h2⟩
    exact ⟨fun h3 => h3.2.1 h1,h2⟩
  rw [e]
theorem gM (h : KU d) (hx : smD x) : D1 d x = some (KN d x):=by
 unfold D1 KN
 rw [gJ h hx]
 simp only [Ad]
 cases hf : Zb d x with
 | false => rfl
 | true =>
  obtain ⟨f1,f2,f3,f4,f5⟩:=PZ hf
  simp only [Bool.not_true,cond_false,cond_true]
  rw [Np (a:=x.2.1.2) (fun y => !(B8 d x.1).1.2.contains y) hx.2.1.1 (fun k hk rec => by
   have h3:=hx.2.1.2 _ (List.getElem_mem hk)
   simp only [CD]
   rw [AL hk,Am hk]
   simp only [cond_true,Ad,Vi f1,CE,AS hk (AA hx.2.1.1),Lc h3]
   rw [Ap (J8 hk hx.2.1.1 _ _)]
   cases (B8 d x.1).1.2.contains x.2.1.2[k] <;> simp) (fun rec y => by simp only [CD]; rw [AG]; rfl)]
  simp only
  rw [Np (a:=x.2.2.2) (fun y => (B8 d x.1).1.2.contains y && !x.2.1.2.contains y) hx.2.2.1 (fun k hk rec => by
   have h3:=hx.2.2.2 _ (List.getElem_mem hk)
   simp only [BU]
   rw [AL hk,Am hk]
   simp only [cond_true,Ad,Vi f1,Vi f2,CF,CG,AS hk (AA hx.2.2.1),Lc h3]
   rw [Ap (J8 hk hx.2.2.1 _ _)]
   cases (B8 d x.1).1.2.contains x.2.2.2[k] <;> cases x.2.1.2.contains x.2.2.2[k] <;> simp) (fun rec y => by simp only [BU]; rw [AG]; rfl)]
  simp only [OP,f4,f5]
def I8 (d : List Tbl) (x : Dlt) : List Tbl × Bool :=
 let y:=KN d x
 cond (!y.2) (d,false) (let u:=unR (RC (B8 d x.1).1 y.1.2.2).1 y.1.2.1; cond (!u.2) (d,false) (setB d x.1 u.1))
theorem ff {a b : Rln} : Bl (unR a b).1.2 ∧ ((unR a b).2 = true -> FZ (unR a b).1 = true):=by
 unfold unR nrB
 cases (FZ a && (FZ b && (a.1 == b.1))) with
 | false => exact ⟨⟨by simp [lim],fun r hr => by cases hr⟩,fun h => by cases h⟩
 | true =>
  simp only [cond_true]
  cases A1 (a.2 ++ b.2) fun _ x => MX a.1 x with
  | true => exact ⟨⟨by simp [lim],fun r hr => by cases hr⟩,fun h => by cases h⟩
  | false =>
   simp only [cond_false]
   cases hr : FZ (a.1,sortB (a.2 ++ b.2)) with
   | false => exact ⟨⟨by simp [lim],fun r hr => by cases hr⟩,fun h => by cases h⟩
   | true => exact ⟨G3 hr,fun _ => hr⟩
theorem X7 (h : KU d) (hx : smD x) : Bl (KN d x).1.2.1.2 ∧ Bl (KN d x).1.2.2.2:=by
 unfold KN
 cases hf : Zb d x with
 | false => exact ⟨⟨by simp [lim],fun r hr => by cases hr⟩,⟨by simp [lim],fun r hr => by cases hr⟩⟩
 | true =>
  obtain ⟨f1,f2,f3,f4,f5⟩:=PZ hf
  exact ⟨G3 (Mk f2 _),G3 (Mk f3 _)⟩
theorem bl {a b : Rln} (ha : Bl a.2) : Bl (RC a b).1.2:=by
 unfold RC
 cases (FZ a && (FZ b && (a.1 == b.1))) with
 | false => exact ⟨by simp [lim],fun r hr => by cases hr⟩
 | true => exact ⟨Nat.le_trans (List.length_filter_le _ _) ha.1,fun y hy => ha.2 y (List.mem_filter.1 hy).1⟩
theorem kw (h : KU d) (hd : d.length < lim) (hx : smD x) : Fl d x = some (I8 d x):=by
 unfold Fl I8
 obtain ⟨n1,n2⟩:=X7 h hx
 rw [kB h hx]
 simp only [Ad,TE h,Sn h]
 cases (KN d x).2 with
 | false => rfl
 | true =>
  simp only [Bool.not_true,cond_false]
  rw [YA (Pj h _) n2]
  simp only
  rw [pY (bl (Pj h _)) n1]
  simp only
  cases hu : (unR (RC (B8 d x.1).1 (KN d x).1.2.2).1 (KN d x).1.2.1).2 with
  | false => rfl
  | true =>
   simp only [Bool.not_true,cond_false]
   rw [kE h hd hx.1 ff.1]
theorem gF (h : KU d) (hd : d.length < lim) (hx : smD x) : Fa d x = some (I8 d x):=by
 unfold Fa I8
 obtain ⟨n1,n2⟩:=X7 h hx
 rw [gM h hx]
 simp only [Ad,Vj h,P4 h]
 cases (KN d x).2 with
 | false => rfl
 | true =>
  simp only [Bool.not_true,cond_false]
  rw [mA (Pj h _) n2]
  simp only
  rw [pG (bl (Pj h _)) n1]
  simp only
  cases hu : (unR (RC (B8 d x.1).1 (KN d x).1.2.2).1 (KN d x).1.2.1).2 with
  | false => rfl
  | true =>
   simp only [Bool.not_true,cond_false]
   rw [gV h hd hx.1 ff.1]
theorem fQ (h : (I8 d x).2 = true) : dbB (I8 d x).1 = true:=by
 unfold I8 at *
 simp only at h ⊢
 cases h1 : (KN d x).2 with
 | false => rw [h1] at h; cases h
 | true =>
  rw [h1] at h
  simp only [Bool.not_true,cond_false] at h ⊢
  cases hu : (unR (RC (B8 d x.1).1 (KN d x).1.2.2).1 (KN d x).1.2.1).2 with
  | false => rw [hu] at h; cases h
  | true =>
   rw [hu] at h
   simp only [Bool.not_true,cond_false] at h ⊢
   exact (eM h).2.1
end
end Go.Proofs.YtpcbnmcfplioeaaGreat
