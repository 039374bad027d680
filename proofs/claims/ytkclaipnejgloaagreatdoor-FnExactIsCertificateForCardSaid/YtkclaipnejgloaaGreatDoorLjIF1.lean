/-
 The leapfrog join of the reference, and the next row. On the printed functions; conditions: sizes.
-/
import Derived.Test.YtkclaipnejgloaaGreatDoorLhIF1
namespace Go.Proofs.YtkclaipnejgloaaGreatDoor
open Go.RowKit
set_option linter.unusedVariables false
set_option linter.unusedSimpArgs false
theorem fS {t : Tri} {pre : List Int} (h : Mf t pre.length) : chB t pre = [] ∨ ∃ lo hi : Nat,lo <= hi ∧ hi <= t.2.length ∧ (pre.length : Int) < t.1 ∧ chB t pre = chK (Cq t.2 (lo : Int) (hi : Int)) pre.length (hi - lo):=by
 obtain ⟨lo,hi,hlh,hhi,_,_,es⟩:=R6 h
 unfold chB
 rw [fT h hlh hhi es,Option.getD_some]
 by_cases hp : (pre.length : Int) < t.1
 ·rw [if_pos hp]; exact .inr ⟨lo,hi,hlh,hhi,hp,rfl⟩
 ·rw [if_neg hp]; exact .inl rfl
theorem Su (S : List (List Int)) (p : Nat) : ∀ n,n <= S.length -> ∀ x ∈ chK S p n,∃ r ∈ S,x = atI r (p : Int)
 | 0,_,x,hx => by rw [chK] at hx; cases hx
 | n + 1,hn,x,hx => by
  rw [chK] at hx
  rcases List.mem_append.1 hx with hx | hx
  ·exact Su S p n (by omega) x hx
  ·cases hb : pushB (chK S p n) (atI ((S[n]?).getD []) (p : Int)) with
   | false => rw [hb] at hx; cases hx
   | true =>
    rw [hb,cond_true,List.mem_singleton] at hx
    refine ⟨S[n],List.getElem_mem _,?_⟩
    rw [hx,List.getElem?_eq_getElem (by omega)]; rfl
theorem XJ {t : Tri} {pre : List Int} (h : Mf t pre.length) : (chB t pre).length <= t.2.length ∧ ∀ x ∈ chB t pre,0 <= x ∧ x <= 99:=by
 rcases fS h with e | ⟨lo,hi,h1,h2,h3,e⟩
 ·rw [e]; exact ⟨Nat.zero_le _,fun x hx => by cases hx⟩
 ·rw [e]
  have hl:=Pw (Cq t.2 (lo : Int) (hi : Int)) pre.length (hi - lo)
  refine ⟨by omega,fun x hx => ?_⟩
  obtain ⟨r,hr,rfl⟩:=Su _ _ _ (by unfold Cq; rw [Int.toNat_natCast,Int.toNat_natCast,List.length_drop,List.length_take]; omega) x hx
  have hm : r ∈ t.2:=by unfold Cq at hr; exact List.mem_of_mem_take (List.mem_of_mem_drop hr)
  have hv:=(KK h.1).2.2.2 r hm
  have:=hv.1
  rw [Gx (by omega)]
  exact T7 hv.2 (by omega)
def pfK (a : Atm) (o pre : List Int) : Nat -> List Int
 | 0 => []
 | i + 1 => pfK a o pre i ++ cond (a.2.contains (atI o (i : Int))) [atI pre (i : Int)] []
theorem QW (a : Atm) (o pre : List Int) : ∀ k,k <= o.length -> (pfK a o pre k).length = Ww a o k
 | 0,_ => by simp [pfK,Ww]
 | k + 1,hk => by
  rw [pfK,List.length_append,QW a o pre k (by omega),fU a (by omega),Gx (by omega)]
  cases a.2.contains o[k] <;> rfl
theorem li {a : Atm} {o pre : List Int} (ha : a.2.length <= lim) (hp : pre.length <= o.length) (ho : o.length <= 5) : G1 a o pre = some (pfK a o pre pre.length):=by
 unfold G1
 have hl : pre.length <= lim:=by unfold lim; omega
 have:=B8 (body:=Ds a o pre) (out:=pfK a o pre pre.length) (fun k => (pfK a o pre k,(k : Int))) pre.length (fun k hk rec => by
  have hpl:=QW a o pre k (by omega)
  have hd:=XL a o k
  have hJ : ∀ y,Er rec (k : Int) y = rec (y,((k + 1 : Nat) : Int)):=fun y => by unfold Er; rw [AF hk (Au hl)]
  unfold Ds
  simp only
  rw [Az hk,Ai (l:=o) (by omega),pfK,Gx (l:=o) (by omega),Gx hk]
  simp only [cond_true,Ad]
  rw [dG ha]
  simp only [hJ]
  rw [Ai hk]
  cases a.2.contains o[k] with
  | true => simp only [cond_true]; rw [Ar (by simp only [List.length_singleton]; unfold lim; omega)]
  | false => simp only [cond_false,List.append_nil]) (fun rec => by unfold Ds; simp only; rw [Ax]; rfl) fz (FZ hl)
 have h2 : Ah (Ds a o pre) fz ([],0) = some (pfK a o pre pre.length):=this
 rw [h2]; rfl
section
variable {T : List Tri} {q : Qry} {o : List Int}
def kyL (T : List Tri) (q : Qry) (o pre : List Int) : List (List Int):=(ixK q (atI o (pre.length : Int)) q.2.1.length).map fun i => chB ((T[i]?).getD (0,[])) (pfK ((q.2.1[i]?).getD ([],[])) o pre pre.length)
def ky (T : List Tri) (q : Qry) (o pre : List Int) : List Int × Int:=lfB (kyL T q o pre)
theorem Zk (h : TriesOk T q o) {pre : List Int} (hk : pre.length < o.length) : ∀ i ∈ ixK q (atI o (pre.length : Int)) q.2.1.length,∃ (hi : i < q.2.1.length),Mf (T[i]'(by rw [h.len]; exact hi)) (pfK q.2.1[i] o pre pre.length).length ∧ chB ((T[i]?).getD (0,[])) (pfK ((q.2.1[i]?).getD ([],[])) o pre pre.length) = chB (T[i]'(by rw [h.len]; exact hi)) (pfK q.2.1[i] o pre pre.length):=fun i hi => by
 obtain ⟨hil,hc⟩:=bw hi
 have hT:=V8 h hil (k:=pre.length) (by omega)
 refine ⟨hil,by rw [QW _ _ _ _ (by omega)]; exact hT,?_⟩
 rw [List.getElem?_eq_getElem (by rw [h.len]; exact hil),List.getElem?_eq_getElem hil]; rfl
theorem WL (h : TriesOk T q o) {pre : List Int} (hk : pre.length < o.length) : Tk (kyL T q o pre) ∧ 0 < (kyL T q o pre).length:=by
 have hq4:=(Ob h.qv).2.2.1
 have hxl:=PT q (atI o (pre.length : Int)) q.2.1.length
 have ho:=Ht h.ov
 have hv:=ho.2.2.1 _ (List.getElem_mem hk)
 have hp:=bz h.qv hv.1 hv.2
 unfold Tk kyL
 rw [List.length_map]
 refine ⟨⟨by omega,fun l hl => ?_⟩,by rw [Gx hk]; omega⟩
 obtain ⟨i,hi,rfl⟩:=List.mem_map.1 hl
 obtain ⟨hil,hT,e⟩:=Zk h hk i hi
 rw [e]
 have h1:=(XJ hT).1
 have h2:=(Oq hT).2.1
 omega
theorem dH (h : TriesOk T q o) {pre : List Int} (hk : pre.length < o.length) : Ia T q o pre = some (ky T q o pre):=by
 have ho:=Ht h.ov
 have hqn:=LZ h.qv
 have hq4:=(Ob h.qv).2.2.1
 have hxl:=PT q o[pre.length] q.2.1.length
 unfold Ia
 rw [Ai hk]
 simp only [Ad]
 rw [ld h.sm h.qv]
 simp only
 have hlen : (ixB q o[pre.length]).length = (ixK q o[pre.length] q.2.1.length).length:=by unfold ixB; rw [List.length_map]
 have hkl : (kyL T q o pre).length = (ixK q o[pre.length] q.2.1.length).length:=by unfold kyL; rw [List.length_map,Gx hk]
 have hloop : Ah (Fy T q o pre (ixB q o[pre.length])) fz (([] : List (List Int)),0) = some (kyL T q o pre):=by
  have:=B8 (body:=Fy T q o pre (ixB q o[pre.length])) (out:=kyL T q o pre) (fun j => ((kyL T q o pre).take j,(j : Int))) (kyL T q o pre).length (fun j hj rec => by
   have hj2 : j < (ixK q o[pre.length] q.2.1.length).length:=by omega
   have hmem : (ixK q o[pre.length] q.2.1.length)[j] ∈ ixK q (atI o (pre.length : Int)) q.2.1.length:=by rw [Gx hk]; exact List.getElem_mem hj2
   obtain ⟨hil,hT,e⟩:=Zk h hk _ hmem
   have hg : AA (ixB q o[pre.length]) (j : Int) = some (((ixK q o[pre.length] q.2.1.length)[j] : Nat) : Int):=by
    rw [F0]; unfold ixB; rw [List.getElem?_map,List.getElem?_eq_getElem hj2]; rfl
   have hal:=(h.sm.2.1 _ (List.getElem_mem hil)).2
   have hTl : (ixK q o[pre.length] q.2.1.length)[j] < T.length:=by rw [h.len]; exact hil
   have hval : (kyL T q o pre)[j] = chB (T[(ixK q o[pre.length] q.2.1.length)[j]]'hTl) (pfK q.2.1[(ixK q o[pre.length] q.2.1.length)[j]] o pre pre.length):=by
    have h1 : (kyL T q o pre)[j]? = some (chB (T[(ixK q o[pre.length] q.2.1.length)[j]]'hTl) (pfK q.2.1[(ixK q o[pre.length] q.2.1.length)[j]] o pre pre.length)):=by
     unfold kyL
     rw [List.getElem?_map,Gx hk,List.getElem?_eq_getElem hj2,Option.map_some,e]
    rw [List.getElem?_eq_getElem hj] at h1
    exact Option.some.inj h1
   unfold Fy
   simp only
   rw [hlen,Az hj2,hg]
   simp only [cond_true,Ad]
   rw [Ai hTl]
   simp only [Ai hil]
   rw [li hal (by omega) (by omega)]
   simp only
   rw [k8 hT]
   simp only
   rw [Ar (by simp only [List.length_take,List.length_singleton]; unfold lim; omega),List.take_succ_eq_append_getElem hj,hval,wrap_in (by omega)]
   rfl) (fun rec => by unfold Fy; simp only; rw [hkl,hlen,Ax,<- hkl,List.take_length]; rfl) fz (by unfold fz; omega)
  simpa using this
 rw [hloop]
 simp only
 rw [lf (WL h hk).1]
 rfl
def wk (T : List Tri) (q : Qry) (o : List Int) : Nat -> List Int -> List (List Int) × Int
 | 0,pre => ([pre],0)
 | r + 1,pre => ((ky T q o pre).1.flatMap (fun v => (wk T q o r (pre ++ [v])).1),(ky T q o pre).1.foldl (fun n v => IntKind.i64.wrap (n + (wk T q o r (pre ++ [v])).2)) (ky T q o pre).2)
theorem Pe (h : TriesOk T q o) (h16 : ∀ t ∈ T,t.2.length <= 16) {pre : List Int} (hk : pre.length < o.length) : (ky T q o pre).1.length <= 16 ∧ Asc (ky T q o pre).1 ∧ (∀ x ∈ (ky T q o pre).1,0 <= x ∧ x <= 99):=by
 obtain ⟨h1,h2⟩:=WL h hk
 obtain ⟨v1,v2,v3,_⟩:=U4 h1
 have hm:=List.getElem_mem h2
 have hm':=hm
 unfold kyL at hm'
 obtain ⟨i,hi,e1⟩:=List.mem_map.1 hm'
 obtain ⟨hil,hT,e2⟩:=Zk h hk i hi
 have hf:=XJ hT
 rw [e2] at e1
 refine ⟨?_,v1,fun x hx => ?_⟩
 ·refine Nat.le_trans (v3 _ hm) ?_
  rw [show (kyL T q o pre)[0] = _ from e1.symm]
  exact Nat.le_trans hf.1 (h16 _ (List.getElem_mem _))
 ·have:=v2 x hx _ hm
  rw [show (kyL T q o pre)[0] = _ from e1.symm] at this
  exact hf.2 x this
theorem Ou (h : TriesOk T q o) (h16 : ∀ t ∈ T,t.2.length <= 16) : ∀ (r : Nat) (pre : List Int),pre.length + r = o.length -> (wk T q o r pre).1.length <= 16 ^ r ∧ (∀ z ∈ (wk T q o r pre).1,z.length = o.length ∧ z.take pre.length = pre ∧ ((∀ x ∈ pre,0 <= x ∧ x <= 99) -> ∀ x ∈ z,0 <= x ∧ x <= 99))
 | 0,pre,hr => by
  rw [wk]
  refine ⟨by simp,fun z hz => ?_⟩
  rw [List.mem_singleton] at hz
  subst hz
  exact ⟨by omega,List.take_length,fun h => h⟩
 | r + 1,pre,hr => by
  obtain ⟨k1,k2,k3⟩:=Pe h h16 (pre:=pre) (by omega)
  have ih:=fun v => Ou h h16 r (pre ++ [v]) (by rw [List.length_append,List.length_singleton]; omega)
  rw [wk]
  refine ⟨?_,fun z hz => ?_⟩
  ·have key : ∀ l : List Int,(l.flatMap (fun v => (wk T q o r (pre ++ [v])).1)).length <= l.length * 16 ^ r:=by
    intro l
    induction l with
    | nil => simp
    | cons v l ihl =>
     rw [List.flatMap_cons,List.length_append,List.length_cons,Nat.add_mul,Nat.one_mul]
     have:=(ih v).1
     omega
   have h1:=key (ky T q o pre).1
   have h2 : (ky T q o pre).1.length * 16 ^ r <= 16 * 16 ^ r:=Nat.mul_le_mul_right _ k1
   rw [Nat.pow_succ]
   simp only
   omega
  ·obtain ⟨v,hv,hz⟩:=List.mem_flatMap.1 hz
   obtain ⟨z1,z2,z3⟩:=(ih v).2 z hz
   refine ⟨z1,?_,fun hp => z3 fun x hx => ?_⟩
   ·have : (z.take (pre ++ [v]).length).take pre.length = pre:=by rw [z2,List.take_left' rfl]
    rw [List.take_take,List.length_append,List.length_singleton,Nat.min_eq_left (by omega)] at this
    exact this
   ·rcases List.mem_append.1 hx with hx | hx
    ·exact hp x hx
    ·rw [List.mem_singleton] at hx; subst hx; exact k3 _ hv
theorem j7 (h : TriesOk T q o) (h16 : ∀ t ∈ T,t.2.length <= 16) : ∀ (r : Nat) (pre : List Int),pre.length + r = o.length -> ∀ m,r < m -> Ah Cc m (T,q,o,pre) = some (wk T q o r pre)
 | 0,pre,hr,m,hm => by
  obtain ⟨m,rfl⟩ : ∃ k,m = k + 1:=⟨m - 1,by omega⟩
  have ho:=Ht h.ov
  have hqn:=LZ h.qv
  rw [AD,Cc]
  rw [show ((List.length pre : Int) == (List.length o : Int)) = true by rw [beq_iff_eq]; omega]
  simp only [cond_true,List.nil_append]
  rw [Ar (by simp only [List.length_nil]; unfold lim; omega)]
  rfl
 | r + 1,pre,hr,m,hm => by
  obtain ⟨m,rfl⟩ : ∃ k,m = k + 1:=⟨m - 1,by omega⟩
  have ho:=Ht h.ov
  have hqn:=LZ h.qv
  obtain ⟨k1,k2,k3⟩:=Pe h h16 (pre:=pre) (by omega)
  have h16r : 16 ^ r <= 1048576:=by
   have:=Nat.pow_le_pow_right (show 0 < 16 by decide) (show r <= 5 by omega)
   exact this
  rw [AD,Cc]
  rw [show ((List.length pre : Int) == (List.length o : Int)) = false by rw [beq_eq_false_iff_ne]; omega]
  simp only [cond_false]
  rw [dH h (by omega)]
  simp only [Ad]
  have key : ∀ j,j <= (ky T q o pre).1.length -> ((((ky T q o pre).1.take j).flatMap (fun v => (wk T q o r (pre ++ [v])).1))).length <= j * 16 ^ r:=by
   intro j
   induction j with
   | zero => intro _; simp
   | succ j ih =>
    intro hj
    have h1:=ih (by omega)
    have h2:=(Ou h h16 r (pre ++ [(ky T q o pre).1[j]]) (by rw [List.length_append,List.length_singleton]; omega)).1
    rw [List.take_succ_eq_append_getElem (by omega),List.flatMap_append,List.length_append,Nat.add_mul,Nat.one_mul,List.flatMap_cons,List.flatMap_nil,List.append_nil]
    omega
  have:=B8 (body:=Fz T q o pre (ky T q o pre) (Ah Cc m)) (out:=((ky T q o pre).1.flatMap (fun v => (wk T q o r (pre ++ [v])).1),(ky T q o pre).1.foldl (fun n v => IntKind.i64.wrap (n + (wk T q o r (pre ++ [v])).2)) (ky T q o pre).2)) (fun j => (((ky T q o pre).1.take j).flatMap (fun v => (wk T q o r (pre ++ [v])).1),((ky T q o pre).1.take j).foldl (fun n v => IntKind.i64.wrap (n + (wk T q o r (pre ++ [v])).2)) (ky T q o pre).2,(j : Int))) (ky T q o pre).1.length (fun j hj rec => by
   have hs:=j7 h h16 r (pre ++ [(ky T q o pre).1[j]]) (by rw [List.length_append,List.length_singleton]; omega) m (by omega)
   have h1:=key j (by omega)
   have h2:=(Ou h h16 r (pre ++ [(ky T q o pre).1[j]]) (by rw [List.length_append,List.length_singleton]; omega)).1
   have h3 : j * 16 ^ r <= 16 * 1048576:=Nat.mul_le_mul (by omega) h16r
   unfold Fz
   simp only [List.nil_append]
   rw [Az hj,Ai hj]
   simp only [cond_true,Ad]
   rw [Ar (by simp only [List.length_nil]; unfold lim; omega),Ar (by simp only [List.length_singleton]; unfold lim; omega),hs]
   simp only
   rw [Ar (by unfold lim; omega),List.take_succ_eq_append_getElem hj,List.flatMap_append,List.foldl_append,List.flatMap_cons,List.flatMap_nil,List.append_nil,AF hj (by unfold maxLen; omega)]
   rfl) (fun rec => by unfold Fz; simp only; rw [Ax,List.take_length]; rfl) fz (by unfold fz; omega)
  have h2 : Ah (Fz T q o pre (ky T q o pre) (Ah Cc m)) fz (([] : List (List Int)),(ky T q o pre).2,0) = some ((ky T q o pre).1.flatMap (fun v => (wk T q o r (pre ++ [v])).1),(ky T q o pre).1.foldl (fun n v => IntKind.i64.wrap (n + (wk T q o r (pre ++ [v])).2)) (ky T q o pre).2):=this
  rw [h2]
  rfl
end
def emB (T : List Tri) : Bool:=Ay T fun _ t => (t.2.length : Int) == 0
theorem k9 {T : List Tri} (hl : T.length <= lim) : Hx T = some (emB T):=by
 unfold Hx emB
 have:=Lz (B:=FU T) (n:=T.length) (fun k => atB T k fun t => (t.2.length : Int) == 0) true hl (fun k hk rec => by
  unfold FU
  rw [Az hk,Ai hk,AF hk (Au hl),AN hk]
  rfl) (fun rec => by unfold FU; rw [Ax]; rfl)
 rw [this]
 have e : (List.range T.length).any (fun k => atB T k fun t => (t.2.length : Int) == 0) = Ay T fun _ t => (t.2.length : Int) == 0:=rfl
 rw [e]
 cases Ay T fun _ t => (t.2.length : Int) == 0 <;> rfl
section
variable {d : List Tbl} {q : Qry} {o : List Int}
def trs (d : List Tbl) (q : Qry) (o : List Int) : List Tri:=q.2.1.map (Re d o)
theorem Tr (hf : Ik d q = true) (ho : Ph q o = true) : ∀ t ∈ trs d q o,t.2.length <= 16:=fun t ht => by
 unfold trs at ht
 obtain ⟨a,ha,rfl⟩:=List.mem_map.1 ht
 have g:=VG hf
 obtain ⟨hok,hp⟩:=Pp g.1 ho ha (g.2.2 a ha)
 exact Nat.le_trans (Td hp).2 (XB hok (g.2.2 a ha)).2
def ljB (d : List Tbl) (q : Qry) (o : List Int) : (Int × List (List Int)) × Int × Bool:=cond (Ik d q && Ph q o) (cond (emB (trs d q o)) (((o.length : Int),[]),0,true) (cond (nrB (o.length : Int) (wk (trs d q o) q o o.length []).1).2 ((nrB (o.length : Int) (wk (trs d q o) q o o.length []).1).1,(wk (trs d q o) q o o.length []).2,true) ((0,[]),0,false))) ((0,[]),0,false)
theorem jO (hq : smQ q) (hf : Ik d q = true) (ho : Ph q o = true) : Hi (wk (trs d q o) q o o.length []).1:=by
 have hod:=Ht ho
 have hqn:=LZ (VG hf).1
 obtain ⟨w1,w2⟩:=Ou (Qq (d:=d) hq hf ho) (Tr hf ho) o.length [] (by simp)
 have h16 : 16 ^ o.length <= 1048576:=by
  have:=Nat.pow_le_pow_right (show 0 < 16 by decide) (show o.length <= 5 by omega)
  exact this
 exact ⟨Nat.le_trans w1 (by unfold lim; omega),fun r hr => by have:=(w2 r hr).1; unfold lim; omega⟩
theorem lg (h : Q7 d) (hq : smQ q) (ho : o.length <= lim) : Fv d q o = some (ljB d q o):=by
 unfold Fv ljB
 rw [Z2 h hq ho]
 unfold Pn
 cases hf : Ik d q with
 | false => rfl
 | true =>
  cases hor : Ph q o with
  | false => rfl
  | true =>
   simp only [Bool.and_self,cond_true,Ad,Bool.not_true,cond_false]
   have hT:=Qq (d:=d) hq hf hor
   rw [show q.2.1.map (Re d o) = trs d q o from rfl] at hT ⊢
   rw [k9 (by rw [hT.len]; exact hq.1)]
   simp only
   cases emB (trs d q o) with
   | true => rfl
   | false =>
    have hw:=j7 hT (Tr hf hor) o.length [] (by simp) fz (by have:=Ht hor; have:=LZ hT.qv; unfold fz; omega)
    have hw : KB (trs d q o) q o [] = some (wk (trs d q o) q o o.length []):=hw
    simp only [cond_false]
    rw [hw]
    simp only
    rw [jF (jO hq hf hor)]
    simp only
    cases (nrB (o.length : Int) (wk (trs d q o) q o o.length []).1).2 <;> rfl
end
end Go.Proofs.YtkclaipnejgloaaGreatDoor
