/-
 The children of a trie, and the bound from degrees: the reference and the program agree. On the printed functions; conditions: the query fits.
-/
import Derived.Test.YtkclaipnejgloaaGreatDoorTtIF1
namespace Go.Proofs.YtkclaipnejgloaaGreatDoor
open Go.RowKit
set_option linter.unusedVariables false
set_option linter.unusedSimpArgs false
abbrev Tri:=Int × List (List Int)
theorem sub_le {r : List Int} {lo hi : Int} : (Cq r lo hi).length <= r.length:=by
 unfold Cq
 rw [List.length_drop,List.length_take]; omega
theorem ZN {t : Tri} {pre : List Int} (h : Hi t.2) : D5 t pre = AJ t pre:=by
 funext rec y
 rw [D5,AJ]
 cases hg : AA t.2 y with
 | none => rfl
 | some e =>
  have hm : e ∈ t.2:=List.mem_of_getElem? (Am hg).2.2
  have hl : (Cq e 0 (pre.length : Int)).length <= lim:=Nat.le_trans sub_le (h.2 e hm)
  rw [AB,AB,Qa hl,TI hl]
theorem ZO {t : Tri} {pre : List Int} (h : Hi t.2) : D6 t pre = AK t pre:=by
 funext rec y
 rw [D6,AK]
 cases hg : AA t.2 y with
 | none => rfl
 | some e =>
  have hm : e ∈ t.2:=List.mem_of_getElem? (Am hg).2.2
  have hl : (Cq e 0 (pre.length : Int)).length <= lim:=Nat.le_trans sub_le (h.2 e hm)
  rw [AB,AB,Qa hl,TI hl]
def Mf (t : Tri) (n : Nat) : Prop:=M5 t = true ∧ (n : Int) <= t.1
theorem Oq {t : Tri} {n : Nat} (h : Mf t n) : Hi t.2 ∧ t.2.length <= 4000 ∧ ∀ r ∈ t.2,(r.length : Int) = t.1 ∧ r.length <= 5:=by
 have h1:=KK h.1
 exact ⟨⟨by have:=h1.2.2.1; unfold lim; omega,fun x hx => by have:=(h1.2.2.2 x hx).1; unfold lim; omega⟩,h1.2.2.1,fun r hr => ⟨(h1.2.2.2 r hr).1,by have:=(h1.2.2.2 r hr).1; omega⟩⟩
theorem Xa {t : Tri} {pre : List Int} (h : Mf t pre.length) : ∃ o,Ah (AJ t pre) fz 0 = some o ∧ ∃ k : Nat,o = (k : Int) ∧ k <= t.2.length:=by
 obtain ⟨h1,h2,h3⟩:=Oq h
 refine JV (B:=AJ t pre) (fun s => ∃ k : Nat,s = (k : Int) ∧ k <= t.2.length) (fun s => t.2.length - s.toNat) (fun o => ∃ k : Nat,o = (k : Int) ∧ k <= t.2.length) ?_ fz 0 ⟨0,rfl,by omega⟩ (by unfold fz; omega)
 rintro s ⟨k,rfl,hk⟩
 rcases Nat.lt_or_ge k t.2.length with hlt | hge
 ·have hr:=h3 _ (List.getElem_mem hlt)
  have hl : (Cq t.2[k] 0 (pre.length : Int)).length <= lim:=Nat.le_trans sub_le (h1.2 _ (List.getElem_mem hlt))
  have e : ∀ rec,AJ t pre rec (k : Int) = cond (decide (F8 (Cq t.2[k] 0 (pre.length : Int)) pre < 0)) (rec ((k + 1 : Nat) : Int)) (some (k : Int)):=fun rec => by
   rw [AJ]
   rw [Az hlt,Ai hlt,AF hlt (Au h1.1),cond_true,AB,Ar (by have:=h.2; omega),Qa hl,AB]
  cases hc : decide (F8 (Cq t.2[k] 0 (pre.length : Int)) pre < 0) with
  | true => exact .inr ⟨((k + 1 : Nat) : Int),⟨k + 1,rfl,hlt⟩,by rw [Int.toNat_natCast,Int.toNat_natCast]; omega,fun rec => by rw [e,hc]; rfl⟩
  | false => exact .inl ⟨(k : Int),⟨k,rfl,hk⟩,fun rec => by rw [e,hc]; rfl⟩
 ·refine .inl ⟨(k : Int),⟨k,rfl,hk⟩,fun rec => ?_⟩
  rw [AJ]
  rw [decide_eq_false (by omega : ¬ (k : Int) < (t.2.length : Int))]; rfl
theorem W9 {t : Tri} {pre : List Int} (h : Mf t pre.length) {lo : Nat} (hlo : lo <= t.2.length) : ∃ o,Ah (AK t pre) fz (lo : Int) = some o ∧ ∃ k : Nat,o = (k : Int) ∧ lo <= k ∧ k <= t.2.length:=by
 obtain ⟨h1,h2,h3⟩:=Oq h
 refine JV (B:=AK t pre) (fun s => ∃ k : Nat,s = (k : Int) ∧ lo <= k ∧ k <= t.2.length) (fun s => t.2.length - s.toNat) (fun o => ∃ k : Nat,o = (k : Int) ∧ lo <= k ∧ k <= t.2.length) ?_ fz (lo : Int) ⟨lo,rfl,Nat.le_refl _,hlo⟩ (by unfold fz; omega)
 rintro s ⟨k,rfl,hk0,hk⟩
 rcases Nat.lt_or_ge k t.2.length with hlt | hge
 ·have hr:=h3 _ (List.getElem_mem hlt)
  have hl : (Cq t.2[k] 0 (pre.length : Int)).length <= lim:=Nat.le_trans sub_le (h1.2 _ (List.getElem_mem hlt))
  have e : ∀ rec,AK t pre rec (k : Int) = cond (F8 (Cq t.2[k] 0 (pre.length : Int)) pre == 0) (rec ((k + 1 : Nat) : Int)) (some (k : Int)):=fun rec => by
   rw [AK]
   rw [Az hlt,Ai hlt,AF hlt (Au h1.1),cond_true,AB,Ar (by have:=h.2; omega),Qa hl,AB]
  cases hc : (F8 (Cq t.2[k] 0 (pre.length : Int)) pre == 0) with
  | true => exact .inr ⟨((k + 1 : Nat) : Int),⟨k + 1,rfl,by omega,hlt⟩,by rw [Int.toNat_natCast,Int.toNat_natCast]; omega,fun rec => by rw [e,hc]; rfl⟩
  | false => exact .inl ⟨(k : Int),⟨k,rfl,hk0,hk⟩,fun rec => by rw [e,hc]; rfl⟩
 ·refine .inl ⟨(k : Int),⟨k,rfl,hk0,hk⟩,fun rec => ?_⟩
  rw [AK]
  rw [decide_eq_false (by omega : ¬ (k : Int) < (t.2.length : Int))]; rfl
theorem R6 {t : Tri} {pre : List Int} (h : Mf t pre.length) : ∃ lo hi : Nat,lo <= hi ∧ hi <= t.2.length ∧ Ah (AJ t pre) fz 0 = some (lo : Int) ∧ Ah (AK t pre) fz (lo : Int) = some (hi : Int) ∧ CU t pre = some ((lo : Int),(hi : Int)):=by
 obtain ⟨h1,h2,h3⟩:=Oq h
 obtain ⟨o1,e1,lo,rfl,hlo⟩:=Xa h
 obtain ⟨o2,e2,hi,rfl,hhi⟩:=W9 h hlo
 refine ⟨lo,hi,hhi.1,hhi.2,e1,e2,?_⟩
 unfold CU G9 J3
 rw [AB,Xi h1,AB,AB,h.1,Bool.not_true,cond_false,decide_eq_false (by have:=h.2; omega),cond_false,e1,AB,e2,AB]
theorem ZP {t : Tri} {pre : List Int} (h : Mf t pre.length) {lo hi : Nat} (e1 : Ah (AJ t pre) fz 0 = some (lo : Int)) (e2 : Ah (AK t pre) fz (lo : Int) = some (hi : Int)) : CM t pre = some ((lo : Int),(hi : Int)):=by
 obtain ⟨h1,h2,h3⟩:=Oq h
 unfold CM EO Gd
 rw [decide_eq_false (by have:=h.2; omega),cond_false,AB,US h1,AB,AB,h.1,Bool.not_true,cond_false,ZN h1,ZO h1,e1,AB,e2,AB]
def pushB (out : List Int) (v : Int) : Bool:=match out.getLast? with
 | none => true
 | some x => x != v
def chK (S : List (List Int)) (p : Nat) : Nat -> List Int
 | 0 => []
 | k + 1 => chK S p k ++ cond (pushB (chK S p k) (atI ((S[k]?).getD []) (p : Int))) [atI ((S[k]?).getD []) (p : Int)] []
theorem Pw (S : List (List Int)) (p : Nat) : ∀ k,(chK S p k).length <= k
 | 0 => by simp [chK]
 | k + 1 => by
  have:=Pw S p k
  rw [chK,List.length_append]
  cases pushB (chK S p k) (atI ((S[k]?).getD []) (p : Int))
  ·rw [cond_false,List.length_nil]; omega
  ·rw [cond_true,List.length_singleton]; omega
theorem QI {out : List Int} (h : out.length <= 4000) (v : Int) {α : Type} (f : Bool -> Option α) : cond ((out.length : Int) == 0) (f true) (Ad (AA out (IntKind.i64.wrap ((out.length : Int) - 1))) fun e => f (e != v)) = f (pushB out v):=by
 by_cases h0 : out.length = 0
 ·have : out = []:=List.eq_nil_of_length_eq_zero h0
  subst this; rfl
 ·have hj : out.length - 1 < out.length:=by omega
  have e : ((out.length : Int) == 0) = false:=by rw [beq_eq_false_iff_ne]; omega
  rw [e,cond_false,wrap_in (by omega),show (out.length : Int) - 1 = ((out.length - 1 : Nat) : Int) by omega,Ai hj,AB]
  unfold pushB
  rw [List.getLast?_eq_getElem?,List.getElem?_eq_getElem hj]
theorem fT {t : Tri} {pre : List Int} (h : Mf t pre.length) {lo hi : Nat} (hlh : lo <= hi) (hhi : hi <= t.2.length) (es : CU t pre = some ((lo : Int),(hi : Int))) : Cn t pre = some (if (pre.length : Int) < t.1 then chK (Cq t.2 (lo : Int) (hi : Int)) pre.length (hi - lo) else []):=by
 obtain ⟨h1,h2,h3⟩:=Oq h
 by_cases hp : (pre.length : Int) < t.1
 ·rw [if_pos hp]
  have hSl : (Cq t.2 (lo : Int) (hi : Int)).length = hi - lo:=by
   unfold Cq; rw [Int.toNat_natCast,Int.toNat_natCast,List.length_drop,List.length_take]; omega
  have hS : ∀ k,k < hi - lo -> (Cq t.2 (lo : Int) (hi : Int))[k]? = t.2[lo + k]?:=fun k hk => by
   unfold Cq
   rw [Int.toNat_natCast,Int.toNat_natCast,List.getElem?_drop,List.getElem?_take,if_pos (by omega)]
  have hat : ∀ k,k < hi - lo -> ∃ r,t.2[lo + k]? = some r ∧ r ∈ t.2 ∧ AA r (pre.length : Int) = some (atI r (pre.length : Int)):=fun k hk => by
   have hlt : lo + k < t.2.length:=by omega
   have hr:=h3 _ (List.getElem_mem hlt)
   exact ⟨_,List.getElem?_eq_getElem hlt,List.getElem_mem hlt,by rw [Ai (by omega),Gx (by omega)]⟩
  unfold Cn
  rw [es,AB]
  have:=B8 (body:=AX t pre ((lo : Int),(hi : Int))) (out:=chK (Cq t.2 (lo : Int) (hi : Int)) pre.length (hi - lo)) (fun k => (chK (Cq t.2 (lo : Int) (hi : Int)) pre.length k,((lo + k : Nat) : Int))) (hi - lo) (fun k hk rec => by
   obtain ⟨r,e1,hm,e2⟩:=hat k hk
   have hl:=Pw (Cq t.2 (lo : Int) (hi : Int)) pre.length k
   have hJ : ∀ b : Bool,BX rec (chK (Cq t.2 (lo : Int) (hi : Int)) pre.length k) ((lo + k : Nat) : Int) (atI r (pre.length : Int)) b = rec (chK (Cq t.2 (lo : Int) (hi : Int)) pre.length k ++ cond b [atI r (pre.length : Int)] [],((lo + (k + 1) : Nat) : Int)):=fun b => by
    have hw : IntKind.i64.wrap (((lo + k : Nat) : Int) + 1) = ((lo + (k + 1) : Nat) : Int):=by rw [wrap_in (by omega)]; omega
    rw [BX]
    cases b with
    | true => rw [cond_true,Ar (by simp only [List.length_singleton]; unfold lim; omega),CT,hw]; rfl
    | false => rw [cond_false,CT,hw,cond_false,List.append_nil]
   rw [AX,chK,hS k hk,e1]
   rw [decide_eq_true (by omega : ((lo + k : Nat) : Int) < (hi : Int)),cond_true,decide_eq_true hp,cond_true,F0,e1,AB,e2,AB,Option.getD_some]
   rw [QI (by omega) (atI r (pre.length : Int)) (fun b => BX rec (chK (Cq t.2 (lo : Int) (hi : Int)) pre.length k) ((lo + k : Nat) : Int) (atI r (pre.length : Int)) b),hJ]) (fun rec => by
   rw [AX]
   rw [decide_eq_false (by omega : ¬ ((lo + (hi - lo) : Nat) : Int) < (hi : Int))]; rfl) fz (by unfold fz; omega)
  rw [show ((([] : List Int),(lo : Int))) = (chK (Cq t.2 (lo : Int) (hi : Int)) pre.length 0,((lo + 0 : Nat) : Int)) from rfl,this]
  rfl
 ·rw [if_neg hp]
  unfold Cn
  rw [es,AB]
  have : Ah (AX t pre ((lo : Int),(hi : Int))) fz (([] : List Int),(lo : Int)) = some []:=B8 (body:=AX t pre ((lo : Int),(hi : Int))) (fun _ => (([] : List Int),(lo : Int))) 0 (fun k hk => absurd hk (by omega)) (fun rec => by
   rw [AX]
   rw [decide_eq_false hp]
   cases decide ((lo : Int) < (hi : Int)) <;> rfl) fz (by unfold fz; omega)
  rw [show (((lo : Int),(hi : Int)) : Int × Int).1 = (lo : Int) from rfl,this]
  rfl
theorem fR {t : Tri} {pre : List Int} (h : Mf t pre.length) {lo hi : Nat} (hlh : lo <= hi) (hhi : hi <= t.2.length) (ei : CM t pre = some ((lo : Int),(hi : Int))) : Dj t pre = some (if (pre.length : Int) < t.1 then chK (Cq t.2 (lo : Int) (hi : Int)) pre.length (hi - lo) else []):=by
 obtain ⟨h1,h2,h3⟩:=Oq h
 by_cases hp : (pre.length : Int) < t.1
 ·rw [if_pos hp]
  have hSl : (Cq t.2 (lo : Int) (hi : Int)).length = hi - lo:=by
   unfold Cq; rw [Int.toNat_natCast,Int.toNat_natCast,List.length_drop,List.length_take]; omega
  have hS : ∀ k,k < hi - lo -> (Cq t.2 (lo : Int) (hi : Int))[k]? = t.2[lo + k]?:=fun k hk => by
   unfold Cq
   rw [Int.toNat_natCast,Int.toNat_natCast,List.getElem?_drop,List.getElem?_take,if_pos (by omega)]
  have hat : ∀ k,k < hi - lo -> ∃ r,t.2[lo + k]? = some r ∧ r ∈ t.2 ∧ AA r (pre.length : Int) = some (atI r (pre.length : Int)):=fun k hk => by
   have hlt : lo + k < t.2.length:=by omega
   have hr:=h3 _ (List.getElem_mem hlt)
   exact ⟨_,List.getElem?_eq_getElem hlt,List.getElem_mem hlt,by rw [Ai (by omega),Gx (by omega)]⟩
  unfold Dj
  rw [decide_eq_false (by omega : ¬ t.1 <= (pre.length : Int)),cond_false]
  unfold EO Gd
  rw [AB,US h1,AB,AB,h.1,Bool.not_true,cond_false,ei,AB,Ar (by simp only; omega)]
  have:=B8 (body:=BQ t pre ((lo : Int),(hi : Int))) (out:=chK (Cq t.2 (lo : Int) (hi : Int)) pre.length (hi - lo)) (fun k => (chK (Cq t.2 (lo : Int) (hi : Int)) pre.length k,(k : Int))) (hi - lo) (fun k hk rec => by
   obtain ⟨r,e1,hm,e2⟩:=hat k hk
   have hl:=Pw (Cq t.2 (lo : Int) (hi : Int)) pre.length k
   have hJ : ∀ b : Bool,BR rec pre (chK (Cq t.2 (lo : Int) (hi : Int)) pre.length k) (k : Int) r b = rec (chK (Cq t.2 (lo : Int) (hi : Int)) pre.length k ++ cond b [atI r (pre.length : Int)] [],((k + 1 : Nat) : Int)):=fun b => by
    have hw : IntKind.i64.wrap ((k : Int) + 1) = ((k + 1 : Nat) : Int):=by rw [wrap_in (by omega)]; omega
    rw [BR]
    cases b with
    | true => rw [cond_true,e2,AB,Ar (by simp only [List.length_singleton]; unfold lim; omega),CL,hw]; rfl
    | false => rw [cond_false,CL,hw,cond_false,List.append_nil]
   rw [BQ,chK]
   rw [hSl,decide_eq_true (by omega : (k : Int) < ((hi - lo : Nat) : Int)),cond_true,F0,hS k hk,e1,AB,e2,Option.getD_some]
   simp only [AB]
   rw [QI (by omega) (atI r (pre.length : Int)) (fun b => BR rec pre (chK (Cq t.2 (lo : Int) (hi : Int)) pre.length k) (k : Int) r b),hJ]) (fun rec => by
   rw [BQ]
   rw [hSl,Ax]; rfl) fz (by unfold fz; omega)
  rw [show ((([] : List Int),(0 : Int))) = (chK (Cq t.2 (lo : Int) (hi : Int)) pre.length 0,((0 : Nat) : Int)) from rfl,this]
  rfl
 ·rw [if_neg hp]
  unfold Dj
  rw [decide_eq_true (by omega : t.1 <= (pre.length : Int))]; rfl
def chB (t : Tri) (pre : List Int) : List Int:=(Cn t pre).getD []
theorem k8 {t : Tri} {pre : List Int} (h : Mf t pre.length) : Cn t pre = some (chB t pre):=by
 obtain ⟨lo,hi,h1,h2,_,_,e⟩:=R6 h
 unfold chB; rw [fT h h1 h2 e]; rfl
theorem kw {t : Tri} {pre : List Int} (h : Mf t pre.length) : Dj t pre = some (chB t pre):=by
 obtain ⟨lo,hi,h1,h2,e1,e2,e⟩:=R6 h
 unfold chB; rw [fT h h1 h2 e,fR h h1 h2 (ZP h e1 e2)]; rfl
def ixK (q : Qry) (v : Int) (k : Nat) : List Nat:=(List.range k).filter fun i => atB q.2.1 i fun a => a.2.contains v
theorem bu (q : Qry) (v : Int) (k : Nat) : ixK q v (k + 1) = ixK q v k ++ cond (atB q.2.1 k fun a => a.2.contains v) [k] []:=by
 unfold ixK
 rw [List.range_succ,List.filter_append,List.filter_cons,List.filter_nil]
 cases (atB q.2.1 k fun a => a.2.contains v) <;> rfl
theorem PT (q : Qry) (v : Int) (k : Nat) : (ixK q v k).length <= k:=by
 unfold ixK
 exact Nat.le_trans (List.length_filter_le _ _) (by simp)
def ixB (q : Qry) (v : Int) : List Int:=(ixK q v q.2.1.length).map fun (i : Nat) => (i : Int)
theorem ld {q : Qry} (hq : smQ q) (hv : Ki q = true) (v : Int) : Da q v = some (ixB q v):=by
 unfold Da
 have hlim:=hq.1
 have h4:=(Ob hv).2.2.1
 have:=B8 (body:=Bm q v) (out:=ixB q v) (fun k => ((ixK q v k).map fun (i : Nat) => (i : Int),(k : Int))) q.2.1.length (fun k hk rec => by
  have hl:=PT q v k
  have hJ : ∀ y,Bn rec (k : Int) y = rec (y,((k + 1 : Nat) : Int)):=fun y => by rw [Bn,AF hk (Au hq.1)]
  rw [Bm,bu,AN hk,List.map_append]
  rw [Az hk,cond_true,MI hq,AB,hv,cond_true,Ai hk,AB,dG (hq.2.1 _ (List.getElem_mem hk)).2,AB,hJ,hJ]
  cases q.2.1[k].2.contains v with
  | true => rw [cond_true,Ar (by rw [List.length_map]; simp only [List.length_singleton]; unfold lim; omega)]; rfl
  | false => rw [cond_false,cond_false,List.map_nil,List.append_nil]) (fun rec => by rw [Bm]; rw [Ax]; rfl) fz (FZ hq.1)
 rw [show ((([] : List Int),(0 : Int))) = ((ixK q v 0).map fun (i : Nat) => (i : Int),((0 : Nat) : Int)) from rfl,this]
 rfl
theorem bw {q : Qry} {v : Int} {i : Nat} (h : i ∈ ixK q v q.2.1.length) : ∃ hi : i < q.2.1.length,(q.2.1[i]).2.contains v = true:=by
 unfold ixK at h
 have h1:=List.mem_filter.1 h
 have h2:=List.mem_range.1 h1.1
 exact ⟨h2,by have:=h1.2; rw [AN h2] at this; exact this⟩
def Ww (a : Atm) (o : List Int) (k : Nat) : Nat:=((o.take k).filter a.2.contains).length
theorem fU (a : Atm) {o : List Int} {k : Nat} (hk : k < o.length) : Ww a o (k + 1) = Ww a o k + cond (a.2.contains o[k]) 1 0:=by
 unfold Ww
 rw [XQ _ hk,List.length_append]
 cases a.2.contains o[k] <;> rfl
theorem XL (a : Atm) (o : List Int) (k : Nat) : Ww a o k <= k:=by
 unfold Ww
 exact Nat.le_trans (List.length_filter_le _ _) (by simp; omega)
structure TriesOk (T : List Tri) (q : Qry) (o : List Int) : Prop where
 sm : smQ q
 qv : Ki q = true
 ov : Ph q o = true
 len : T.length = q.2.1.length
 rel : ∀ (i : Nat) (hi : i < q.2.1.length),M5 (T[i]'(by rw [len]; exact hi)) = true ∧ (T[i]'(by rw [len]; exact hi)).1 = ((avL q.2.1[i] 5).length : Int)
theorem V8 {T : List Tri} {q : Qry} {o : List Int} (h : TriesOk T q o) {i k : Nat} (hi : i < q.2.1.length) (hk : k <= o.length) : Mf (T[i]'(by rw [h.len]; exact hi)) (Ww q.2.1[i] o k):=by
 have h1:=h.rel i hi
 refine ⟨h1.1,?_⟩
 rw [h1.2]
 have ho:=Ht h.ov
 have hq:=LZ h.qv
 have : ((o.take k).filter q.2.1[i].2.contains).length <= (avL q.2.1[i] 5).length:=SX ((ho.2.1.sublist (List.take_sublist _ _)).sublist List.filter_sublist) fun v hv => by
  have h2:=List.mem_filter.1 hv
  have h3:=ho.2.2.1 v (List.mem_of_mem_take h2.1)
  exact Nx.2 ⟨by omega,h2.2⟩
 unfold Ww
 omega
theorem bz {q : Qry} (hv : Ki q = true) {v : Int} (h0 : 0 <= v) (h1 : v < q.1) : (ixK q v q.2.1.length).length ≠ 0:=by
 unfold Ki at hv
 simp only [Bool.and_eq_true,Bool.not_eq_true'] at hv
 have h2:=hv.2.2.2.2
 have h3:=List.any_eq_false.1 h2 v.toNat (List.mem_range.2 (by omega))
 rw [show ((v.toNat : Nat) : Int) = v by omega] at h3
 simp only [Bool.not_eq_true,Bool.not_eq_false'] at h3
 unfold Ic at h3
 obtain ⟨a,ha,hc⟩:=List.any_eq_true.1 h3
 obtain ⟨i,hi,rfl⟩:=List.mem_iff_getElem.1 ha
 have : i ∈ ixK q v q.2.1.length:=by
  unfold ixK
  exact List.mem_filter.2 ⟨List.mem_range.2 hi,by rw [AN hi]; exact hc⟩
 intro e
 rw [List.eq_nil_of_length_eq_zero e] at this
 cases this
theorem Qq {d : List Tbl} {q : Qry} {o : List Int} (hq : smQ q) (hf : Ik d q = true) (ho : Ph q o = true) : TriesOk (q.2.1.map (Re d o)) q o:=by
 have hfit:=VG hf
 refine ⟨hq,hfit.1,ho,by rw [List.length_map],fun i hi => ?_⟩
 have hmem:=List.getElem_mem hi
 obtain ⟨hok,hp⟩:=Pp hfit.1 ho hmem (hfit.2.2 _ hmem)
 rw [List.getElem_map]
 refine ⟨(Td hp).1,?_⟩
 show ((Wt q.2.1[i] o).length : Int) = _
 exact hp.2.1
end Go.Proofs.YtkclaipnejgloaaGreatDoor
