/-
 ApplyDelta: the reference and the program give the same. On the printed functions; conditions: lengths.
-/
import Derived.Test.YtceghmdneadhbaaGreatSrWA1
import Derived.Test.YtceghmdneadhbaaGreatNrWA1
import Derived.Test.YtceghmdneadhbaaGreatFhWA1
-- pure
namespace Go.Proofs.YtceghmdneadhbaaGreat
open Go.RowKit
set_option linter.unusedVariables false
set_option linter.unusedSimpArgs false
theorem rel_filter {r : Rln} (h : relB r = true) (p : Row -> Bool) : relB (r.1,r.2.filter p) = true := by
 obtain ⟨h1,h2,h3,h4⟩ := (rel_iff r).1 h
 exact (rel_iff _).2 ⟨h1,Nat.le_trans (List.length_filter_le p r.2) h2,fun x hx => h3 x (List.mem_filter.1 hx).1,h4.filter p⟩
theorem rel_smR {r : Rln} (h : relB r = true) : smRows r.2 := by
 obtain ⟨h1,h2,h3,h4⟩ := (rel_iff r).1 h
 exact ⟨by unfold lim; omega,fun x hx => by have := (h3 x hx).1; unfold lim; omega⟩
theorem half_loop {B : (Int × Int -> Option Int) -> Int × Int -> Option Int} {rows : List Row} {row : Row} (hs : Srt rows) (hl : rows.length <= lim)
  (h1 : ∀ rec (lo hi m : Nat),lo < hi -> hi <= rows.length -> m = (lo + hi) / 2 -> ∀ hm : m < rows.length,B rec ((lo : Int),(hi : Int)) = cond (decide (cmpB rows[m] row < 0)) (rec (((m + 1 : Nat) : Int),(hi : Int))) (rec ((lo : Int),(m : Int))))
  (h2 : ∀ rec (lo : Nat),B rec ((lo : Int),(lo : Int)) = some (lo : Int)) :
  ∃ k : Nat,k <= rows.length ∧ loopF B fz (0,(rows.length : Int)) = some (k : Int) ∧ (∀ i (hi : i < rows.length),i < k -> cmpB rows[i] row < 0) ∧ ∀ i (hi : i < rows.length),k <= i -> ¬ cmpB rows[i] row < 0 := by
 have key : ∀ d (lo hi : Nat),hi - lo <= d -> lo <= hi -> hi <= rows.length -> (∀ i (hi : i < rows.length),i < lo -> cmpB rows[i] row < 0) -> (∀ i (hi' : i < rows.length),hi <= i -> ¬ cmpB rows[i] row < 0) -> ∀ m,d < m ->
   ∃ k : Nat,k <= rows.length ∧ loopF B m ((lo : Int),(hi : Int)) = some (k : Int) ∧ (∀ i (hi : i < rows.length),i < k -> cmpB rows[i] row < 0) ∧ ∀ i (hi : i < rows.length),k <= i -> ¬ cmpB rows[i] row < 0 := by
  intro d
  induction d with
  | zero =>
   intro lo hi h3 h4 h5 h6 h7 m hm
   have : lo = hi := by omega
   subst this
   cases m with
   | zero => omega
   | succ m => exact ⟨lo,h5,h2 _ lo,h6,h7⟩
  | succ d ih =>
   intro lo hi h3 h4 h5 h6 h7 m hm
   cases m with
   | zero => omega
   | succ m =>
    rcases Nat.lt_or_ge lo hi with hlt | hge
    ·have hmid : (lo + hi) / 2 < rows.length := by omega
     show ∃ k : Nat,k <= rows.length ∧ B (loopF B m) _ = _ ∧ _
     rw [h1 _ lo hi _ hlt h5 rfl hmid]
     by_cases hc : cmpB rows[(lo + hi) / 2] row < 0
     ·rw [decide_eq_true hc]
      refine ih ((lo + hi) / 2 + 1) hi (by omega) (by omega) h5 (fun i hi' hik => ?_) h7 m (by omega)
      rcases Nat.lt_or_ge i ((lo + hi) / 2) with h8 | h8
      ·exact cmp_trans (List.pairwise_iff_getElem.1 hs i _ hi' hmid h8) hc
      ·have : i = (lo + hi) / 2 := by omega
       subst this
       exact hc
     ·rw [decide_eq_false hc]
      refine ih lo ((lo + hi) / 2) (by omega) (by omega) (by omega) h6 (fun i hi' hik => ?_) m (by omega)
      rcases Nat.lt_or_ge ((lo + hi) / 2) i with h8 | h8
      ·intro h9
       exact hc (cmp_trans (List.pairwise_iff_getElem.1 hs _ i hmid hi' h8) h9)
      ·have : i = (lo + hi) / 2 := by omega
       subst this
       exact hc
    ·have : lo = hi := by omega
     subst this
     exact ⟨lo,h5,h2 _ lo,h6,h7⟩
 exact key rows.length 0 rows.length (by omega) (by omega) (Nat.le_refl _) (fun i _ h => by omega) (fun i h h' => by omega) fz (lt_fz hl)
theorem place_is {rows : List Row} {row : Row} (hs : Srt rows) {k : Nat} (hk : k <= rows.length) (h1 : ∀ i (hi : i < rows.length),i < k -> cmpB rows[i] row < 0) (h2 : ∀ i (hi : i < rows.length),k <= i -> ¬ cmpB rows[i] row < 0) :
  (atB rows k fun x => cmpB x row == 0) = rows.contains row := by
 rw [Bool.eq_iff_iff,List.contains_iff_mem]
 constructor
 ·intro h
  rcases Nat.lt_or_ge k rows.length with hlt | hge
  ·rw [atB_lt hlt,beq_iff_eq] at h
   rw [<- cmp_zero h]
   exact List.getElem_mem hlt
  ·unfold atB at h; rw [List.getElem?_eq_none hge] at h; cases h
 ·intro h
  obtain ⟨j,hj,rfl⟩ := List.mem_iff_getElem.1 h
  have hkj : ¬ j < k := fun h3 => by have := h1 j hj h3; rw [cmp_self] at this; omega
  have hlt : k < rows.length := by omega
  rw [atB_lt hlt,beq_iff_eq]
  rcases Nat.lt_or_ge k j with h3 | h3
  ·exact absurd (List.pairwise_iff_getElem.1 hs k j hlt hj h3) (h2 k hlt (Nat.le_refl _))
  ·have : k = j := by omega
   subst this
   exact cmp_self _
theorem s_placeK {r : Rln} {row : Row} (hs : Srt r.2) (hr : smRows r.2) : ∃ k : Nat,k <= r.2.length ∧ spec_l5Place r row = some ((k : Int),r.2.contains row) ∧ (∀ i (hi : i < r.2.length),i < k -> cmpB r.2[i] row < 0) ∧ ∀ i (hi : i < r.2.length),k <= i -> ¬ cmpB r.2[i] row < 0 := by
 obtain ⟨k,hk,hl,h1,h2⟩ := half_loop (B := spec_l5Place_B1 r row) (row := row) hs hr.1 (fun rec lo hi m h1 h2 h3 hm => by
  have := hr.1
  unfold lim at this
  simp only [spec_l5Place_B1]
  have hlh : (lo : Int) + (hi : Int) <= 2199023255552 := by omega
  have e1 : IntKind.i64.wrap ((lo : Int) + (hi : Int)) = ((lo + hi : Nat) : Int) := by rw [wrap_in ⟨by omega,by omega⟩]; omega
  have e2 : IntKind.i64.wrap (Int.tdiv ((lo + hi : Nat) : Int) 2) = ((m : Nat) : Int) := by
   have e3 : Int.tdiv ((lo + hi : Nat) : Int) 2 = (((lo + hi) / 2 : Nat) : Int) := by rw [Int.tdiv_eq_ediv_of_nonneg (by omega)]; omega
   rw [e3,<- h3,wrap_in ⟨by omega,by omega⟩]
  rw [decide_eq_true (by omega),e1,e2,geti_at hm]
  simp only [cond_true,obind]
  rw [s_cmp (hr.2 _ (List.getElem_mem hm))]
  simp only
  rw [wrap_in (by omega)]
  simp) (fun rec lo => by simp only [spec_l5Place_B1]; rw [nlt_dec]; rfl)
 unfold spec_l5Place
 rw [hl]
 simp only [obind]
 have hp := place_is (row := row) hs hk h1 h2
 rcases Nat.lt_or_ge k r.2.length with hlt | hge
 ·rw [lt_dec hlt,geti_at hlt]
  simp only [cond_true,s_cmp (hr.2 _ (List.getElem_mem hlt)),spec_l5Place_J2]
  rw [atB_lt hlt] at hp
  exact ⟨k,hk,by rw [hp],h1,h2⟩
 ·rw [decide_eq_false (by omega)]
  have : (atB r.2 k fun x => cmpB x row == 0) = false := by unfold atB; rw [List.getElem?_eq_none hge]
  rw [this] at hp
  exact ⟨k,hk,by rw [<- hp]; rfl,h1,h2⟩
theorem s_place {r : Rln} {row : Row} (hs : Srt r.2) (hr : smRows r.2) : ∃ z,spec_l5Place r row = some (z,r.2.contains row) :=
 let ⟨k,_,h,_⟩ := s_placeK (row := row) hs hr
 ⟨_,h⟩
theorem i_placeK {rows : List Row} {row : Row} (hs : Srt rows) (hr : smRows rows) : ∃ k : Nat,k <= rows.length ∧ impl_place rows row = some ((k : Int),rows.contains row) ∧ (∀ i (hi : i < rows.length),i < k -> cmpB rows[i] row < 0) ∧ ∀ i (hi : i < rows.length),k <= i -> ¬ cmpB rows[i] row < 0 := by
 obtain ⟨k,hk,hl,h1,h2⟩ := half_loop (B := impl_place_B1 rows row) (row := row) hs hr.1 (fun rec lo hi m h1 h2 h3 hm => by
  have := hr.1
  unfold lim at this
  simp only [impl_place_B1]
  have hlh : (lo : Int) + (hi : Int) <= 2199023255552 := by omega
  have e1 : IntKind.i64.wrap ((lo : Int) + (hi : Int)) = ((lo + hi : Nat) : Int) := by rw [wrap_in ⟨by omega,by omega⟩]; omega
  have e2 : IntKind.i64.wrap (Int.tdiv ((lo + hi : Nat) : Int) 2) = ((m : Nat) : Int) := by
   have e3 : Int.tdiv ((lo + hi : Nat) : Int) 2 = (((lo + hi) / 2 : Nat) : Int) := by rw [Int.tdiv_eq_ediv_of_nonneg (by omega)]; omega
   rw [e3,<- h3,wrap_in ⟨by omega,by omega⟩]
  rw [decide_eq_true (by omega),e1,e2,geti_at hm]
  simp only [cond_true,obind]
  rw [i_cmp (hr.2 _ (List.getElem_mem hm))]
  simp only
  rw [wrap_in (by omega)]
  simp) (fun rec lo => by simp only [impl_place_B1]; rw [nlt_dec]; rfl)
 unfold impl_place
 rw [hl]
 simp only [obind]
 have hp := place_is (row := row) hs hk h1 h2
 rcases Nat.lt_or_ge k rows.length with hlt | hge
 ·rw [lt_dec hlt,geti_at hlt]
  simp only [cond_true,i_cmp (hr.2 _ (List.getElem_mem hlt)),impl_place_J2]
  rw [atB_lt hlt] at hp
  exact ⟨k,hk,by rw [hp],h1,h2⟩
 ·rw [decide_eq_false (by omega)]
  have : (atB rows k fun x => cmpB x row == 0) = false := by unfold atB; rw [List.getElem?_eq_none hge]
  rw [this] at hp
  exact ⟨k,hk,by rw [<- hp]; rfl,h1,h2⟩
def difB (a b : Rln) : Rln := (a.1,a.2.filter fun x => !b.2.contains x)
def difR (a b : Rln) : Rln × Bool := cond (relB a && (relB b && (a.1 == b.1))) (difB a b,true) ((0,[]),false)
theorem filt_step {α : Type} {l : List α} {k : Nat} (hk : k < l.length) (p : α -> Bool) : (l.take (k + 1)).filter p = (l.take k).filter p ++ cond (p l[k]) [l[k]] [] := by
 rw [List.take_succ_eq_append_getElem hk,List.filter_append]
 cases h : p l[k] <;> simp [h]
theorem filt_few {α : Type} {l : List α} {k : Nat} (hk : k < l.length) (hl : l.length <= lim) (p : α -> Bool) (x : α) : ((l.take k).filter p).length + [x].length <= lim := by
 have := List.length_filter_le p (l.take k)
 rw [List.length_take] at this
 simp only [List.length_singleton]
 omega
theorem filt_loop {α : Type} {a : List α} {B : (List α × Int -> Option (List α)) -> List α × Int -> Option (List α)} (p : α -> Bool) (hl : a.length <= lim)
  (h1 : ∀ k (hk : k < a.length) rec,B rec ((a.take k).filter p,(k : Int)) = rec ((a.take k).filter p ++ cond (p a[k]) [a[k]] [],((k + 1 : Nat) : Int))) (h2 : ∀ rec y,B rec (y,(a.length : Int)) = some y) : loopF B fz ([],0) = some (a.filter p) := by
 have := loop_to (body := B) (out := a.filter p) (fun k => ((a.take k).filter p,(k : Int))) a.length (fun k hk rec => by rw [h1 k hk,filt_step hk]) (fun rec => by rw [h2,List.take_length]) fz (lt_fz hl)
 simpa using this
theorem s_dif {a b : Rln} (ha : smRows a.2) (hb : smRows b.2) : spec_Difference a b = some (difR a b) := by
 unfold spec_Difference difR
 simp only [s_rel ha,s_rel hb,obind]
 cases hva : relB a with
 | false => rfl
 | true =>
  cases hvb : relB b with
  | false => rfl
  | true =>
   simp only [Bool.not_true,cond_false,Bool.true_and,bne]
   cases (a.1 == b.1) with
   | false => rfl
   | true =>
    simp only [Bool.not_true,cond_false,cond_true]
    rw [filt_loop (a := a.2) (fun x => !b.2.contains x) ha.1 (fun k hk rec => by
     obtain ⟨z,hz⟩ := s_place (row := a.2[k]) ((rel_iff b).1 hvb).2.2.2 hb
     have h3 := ha.2 _ (List.getElem_mem hk)
     simp only [spec_Difference_B1]
     rw [lt_dec hk,geti_at hk]
     simp only [cond_true,obind,hz,spec_Difference_J2,wrap_s hk (lim_max ha.1),List.nil_append]
     rw [chk_pos (by simpa using h3),chk_pos (filt_few hk ha.1 _ _)]
     cases b.2.contains a.2[k] <;> simp) (fun rec y => by simp only [spec_Difference_B1]; rw [nlt_dec]; rfl)]
    rfl
def unR (a b : Rln) : Rln × Bool := cond (relB a && (relB b && (a.1 == b.1))) (nrB a.1 (a.2 ++ b.2)) ((0,[]),false)
theorem un_sm {a b : Rln} (ha : relB a = true) (hb : relB b = true) : smRows (a.2 ++ b.2) := by
 have h1 := ((rel_iff a).1 ha).2.1
 have h2 := ((rel_iff b).1 hb).2.1
 refine ⟨by rw [List.length_append]; unfold lim; omega,fun x hx => ?_⟩
 rcases List.mem_append.1 hx with hx | hx
 ·exact (rel_smR ha).2 x hx
 ·exact (rel_smR hb).2 x hx
theorem s_un {a b : Rln} (ha : smRows a.2) (hb : smRows b.2) : spec_Union a b = some (unR a b) := by
 unfold spec_Union unR
 simp only [s_rel ha,s_rel hb,obind]
 cases hva : relB a with
 | false => rfl
 | true =>
  cases hvb : relB b with
  | false => rfl
  | true =>
   have h1 := ((rel_iff a).1 hva).2.1
   have h2 := ((rel_iff b).1 hvb).2.1
   simp only [Bool.not_true,cond_false,Bool.true_and,bne]
   cases (a.1 == b.1) with
   | false => rfl
   | true =>
    simp only [Bool.not_true,cond_false,cond_true,List.nil_append]
    rw [chk_pos (by unfold lim; simp; omega),chk_pos (by unfold lim; omega),s_nr (un_sm hva hvb)]
abbrev Dlt := List UInt8 × Rln × Rln
def smD (x : Dlt) : Prop := x.1.length <= lim ∧ smRows x.2.1.2 ∧ smRows x.2.2.2
def fitB (d : List Tbl) (x : Dlt) : Bool := (lookB d x.1).2 && (relB x.2.1 && (relB x.2.2 && ((x.2.1.1 == (lookB d x.1).1.1) && (x.2.2.1 == (lookB d x.1).1.1))))
theorem look_relA {d : List Tbl} {nm : List UInt8} (h : (lookB d nm).2 = true) : relB (lookB d nm).1 = true := by
 unfold lookB at *
 split at h
 ·rename_i hd
  rw [if_pos hd]
  cases hf : d.find? (fun t => t.1 == nm) with
  | none => rw [hf] at h; cases h
  | some t =>
   simp only
   have hm := List.mem_of_find?_eq_some hf
   unfold dbB at hd
   simp only [Bool.and_eq_true,Bool.not_eq_true'] at hd
   obtain ⟨i,hi,rfl⟩ := List.mem_iff_getElem.1 hm
   have := badAny_f hd.2 hi
   unfold tblBad at this
   simp only [Bool.or_eq_false_iff,Bool.not_eq_false',decide_eq_false_iff_not] at this
   exact this.1.1.2
 ·cases h
theorem look_smA {d : List Tbl} (h : smDb d) (nm : List UInt8) : smRows (lookB d nm).1.2 := by
 unfold lookB
 split
 ·cases hf : d.find? (fun t => t.1 == nm) with
  | none => exact ⟨by simp,fun r hr => by cases hr⟩
  | some t => exact (h.2 t (List.mem_of_find?_eq_some hf)).2
 ·exact ⟨by simp,fun r hr => by cases hr⟩
def normB (d : List Tbl) (x : Dlt) : Dlt × Bool :=
 let r := (lookB d x.1).1
 cond (fitB d x) ((x.1,difB x.2.1 r,(x.2.2.1,x.2.2.2.filter fun y => r.2.contains y && !x.2.1.2.contains y)),true) (([],(0,[]),(0,[])),false)
section
variable {d : List Tbl} {x : Dlt}
theorem fit_facts (h : fitB d x = true) : relB (lookB d x.1).1 = true ∧ relB x.2.1 = true ∧ relB x.2.2 = true ∧ x.2.1.1 = (lookB d x.1).1.1 ∧ x.2.2.1 = (lookB d x.1).1.1 := by
 simp only [fitB,Bool.and_eq_true,beq_iff_eq] at h
 exact ⟨look_relA h.1,h.2.1,h.2.2.1,h.2.2.2.1,h.2.2.2.2⟩
theorem s_fits (h : smDb d) (hx : smD x) : spec_l26Fits d x = some (fitB d x) := by
 unfold spec_l26Fits
 simp only [s_look h,s_rel hx.2.1,s_rel hx.2.2,obind,spec_l26Fits_J1,fitB]
 cases (lookB d x.1).2 <;> cases relB x.2.1 <;> cases relB x.2.2 <;> cases (x.2.1.1 == (lookB d x.1).1.1) <;> rfl
theorem s_norm (h : smDb d) (hx : smD x) : spec_NormalizeDelta d x = some (normB d x) := by
 unfold spec_NormalizeDelta normB
 rw [s_fits h hx]
 simp only [obind]
 cases hf : fitB d x with
 | false => rfl
 | true =>
  obtain ⟨f1,f2,f3,f4,f5⟩ := fit_facts hf
  simp only [Bool.not_true,cond_false,cond_true,s_look h]
  generalize (lookB d x.1).1 = r at f1 f4 f5
  have d1 : difR x.2.1 r = (difB x.2.1 r,true) := by unfold difR; rw [f2,f1,f4]; simp
  have d2 : difR x.2.2 x.2.1 = (difB x.2.2 x.2.1,true) := by unfold difR; rw [f3,f2,f5,f4]; simp
  have g1 : relB (difB x.2.2 x.2.1) = true := rel_filter f3 _
  have d3 : difR (difB x.2.2 x.2.1) r = (difB (difB x.2.2 x.2.1) r,true) := by unfold difR; rw [g1,f1]; simp [difB,f5]
  have g2 : relB (difB (difB x.2.2 x.2.1) r) = true := rel_filter g1 _
  have d4 : difR (difB x.2.2 x.2.1) (difB (difB x.2.2 x.2.1) r) = (difB (difB x.2.2 x.2.1) (difB (difB x.2.2 x.2.1) r),true) := by unfold difR; rw [g1,g2]; simp [difB]
  rw [s_dif (rel_smR f2) (rel_smR f1),d1]
  simp only
  rw [s_dif (rel_smR f3) (rel_smR f2),d2]
  simp only
  rw [s_dif (rel_smR g1) (rel_smR f1),d3]
  simp only
  rw [s_dif (rel_smR g1) (rel_smR g2),d4]
  simp only
  have e : (difB (difB x.2.2 x.2.1) (difB (difB x.2.2 x.2.1) r)) = (x.2.2.1,x.2.2.2.filter fun y => r.2.contains y && !x.2.1.2.contains y) := by
   unfold difB
   simp only [List.filter_filter]
   congr 1
   apply List.filter_congr
   intro y hy
   rw [Bool.eq_iff_iff]
   simp only [Bool.and_eq_true,Bool.not_eq_true',<- Bool.not_eq_true,List.contains_iff_mem,List.mem_filter]
   constructor
   ·rintro ⟨h1,h2⟩
    refine ⟨?_,h2⟩
    exact Classical.byContradiction fun h3 => h1 ⟨hy,h3,h2⟩
   ·rintro ⟨h1,h2⟩
    exact ⟨fun h3 => h3.2.1 h1,h2⟩
  rw [e]
def applB (d : List Tbl) (x : Dlt) : List Tbl × Bool :=
 let y := normB d x
 cond (!y.2) (d,false) (let u := unR (difR (lookB d x.1).1 y.1.2.2).1 y.1.2.1; cond (!u.2) (d,false) (setB d x.1 u.1))
theorem un_ok {a b : Rln} : smRows (unR a b).1.2 ∧ ((unR a b).2 = true -> relB (unR a b).1 = true) := by
 unfold unR nrB
 cases (relB a && (relB b && (a.1 == b.1))) with
 | false => exact ⟨⟨by simp [lim],fun r hr => by cases hr⟩,fun h => by cases h⟩
 | true =>
  simp only [cond_true]
  cases badAny (a.2 ++ b.2) fun _ x => nrBad a.1 x with
  | true => exact ⟨⟨by simp [lim],fun r hr => by cases hr⟩,fun h => by cases h⟩
  | false =>
   simp only [cond_false]
   cases hr : relB (a.1,sortB (a.2 ++ b.2)) with
   | false => exact ⟨⟨by simp [lim],fun r hr => by cases hr⟩,fun h => by cases h⟩
   | true => exact ⟨rel_smR hr,fun _ => hr⟩
theorem norm_sm (h : smDb d) (hx : smD x) : smRows (normB d x).1.2.1.2 ∧ smRows (normB d x).1.2.2.2 := by
 unfold normB
 cases hf : fitB d x with
 | false => exact ⟨⟨by simp [lim],fun r hr => by cases hr⟩,⟨by simp [lim],fun r hr => by cases hr⟩⟩
 | true =>
  obtain ⟨f1,f2,f3,f4,f5⟩ := fit_facts hf
  exact ⟨rel_smR (rel_filter f2 _),rel_smR (rel_filter f3 _)⟩
theorem dif_sm {a b : Rln} (ha : smRows a.2) : smRows (difR a b).1.2 := by
 unfold difR
 cases (relB a && (relB b && (a.1 == b.1))) with
 | false => exact ⟨by simp [lim],fun r hr => by cases hr⟩
 | true => exact ⟨Nat.le_trans (List.length_filter_le _ _) ha.1,fun y hy => ha.2 y (List.mem_filter.1 hy).1⟩
theorem s_app (h : smDb d) (hd : d.length < lim) (hx : smD x) : spec_ApplyDelta d x = some (applB d x) := by
 unfold spec_ApplyDelta applB
 obtain ⟨n1,n2⟩ := norm_sm h hx
 rw [s_norm h hx]
 simp only [obind,s_look h,s_copyD h]
 cases (normB d x).2 with
 | false => rfl
 | true =>
  simp only [Bool.not_true,cond_false]
  rw [s_dif (look_smA h _) n2]
  simp only
  rw [s_un (dif_sm (look_smA h _)) n1]
  simp only
  cases hu : (unR (difR (lookB d x.1).1 (normB d x).1.2.2).1 (normB d x).1.2.1).2 with
  | false => rfl
  | true =>
   simp only [Bool.not_true,cond_false]
   rw [s_setR h hd hx.1 un_ok.1]
theorem app_ok (h : (applB d x).2 = true) : dbB (applB d x).1 = true := by
 unfold applB at *
 simp only at h ⊢
 cases h1 : (normB d x).2 with
 | false => rw [h1] at h; cases h
 | true =>
  rw [h1] at h
  simp only [Bool.not_true,cond_false] at h ⊢
  cases hu : (unR (difR (lookB d x.1).1 (normB d x).1.2.2).1 (normB d x).1.2.1).2 with
  | false => rw [hu] at h; cases h
  | true =>
   rw [hu] at h
   simp only [Bool.not_true,cond_false] at h ⊢
   exact (setB_ok h).2.1
end
end Go.Proofs.YtceghmdneadhbaaGreat
