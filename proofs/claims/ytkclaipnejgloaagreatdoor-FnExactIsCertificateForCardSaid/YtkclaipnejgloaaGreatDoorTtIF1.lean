/-
 Tries of a query's atoms, and their children: the reference and the program agree. On the printed functions; conditions: the query fits.
-/
import Derived.Test.YtkclaipnejgloaaGreatDoorAbIF1
namespace Go.Proofs.YtkclaipnejgloaaGreatDoor
open Go.RowKit
set_option linter.unusedVariables false
set_option linter.unusedSimpArgs false
theorem SX : ∀ {l m : List Int},l.Nodup -> (∀ x ∈ l,x ∈ m) -> l.length <= m.length
 | [],m,_,_ => by simp
 | x :: l,m,hn,h => by
  have hx:=h x (by simp)
  rw [List.nodup_cons] at hn
  have h1:=SX (l:=l) (m:=m.erase x) hn.2 (fun y hy => by
   have hne : y ≠ x:=fun e => by subst e; exact hn.1 hy
   exact (List.mem_erase_of_ne hne).2 (h y (by simp [hy])))
  have h2:=List.length_erase_of_mem hx
  have h3 : 0 < m.length:=List.length_pos_of_mem hx
  rw [List.length_cons]; omega
theorem dX {n : Int} (hn : 1 <= n ∧ n <= 5) {l : List Int} (h : Ay l (FR n l) = false) : l.Nodup ∧ ∀ e ∈ l,0 <= e ∧ e < n:=by
 have hw : IntKind.i64.wrap (n - 1) = n - 1:=wrap_in (by omega)
 constructor
 ·rw [List.nodup_iff_pairwise_ne,List.pairwise_iff_getElem]
  intro i j hi hj hij he
  have h1:=FE h hj
  unfold FR at h1
  simp only [Bool.or_eq_false_iff] at h1
  have h2:=h1.2
  have h3 : (l.take j).contains l[j] = true:=by
   rw [List.contains_iff_mem,List.mem_iff_getElem]
   exact ⟨i,by rw [List.length_take]; omega,by rw [List.getElem_take]; exact he⟩
  rw [h3] at h2; cases h2
 ·intro e he
  obtain ⟨k,hk,rfl⟩:=List.mem_iff_getElem.1 he
  have:=FE h hk
  unfold FR btw at this
  simp only [Bool.or_eq_false_iff,Bool.not_eq_false',Bool.and_eq_true,decide_eq_true_eq,hw] at this
  omega
theorem Yt {m : Int} (hm : 0 <= m ∧ m <= 5) {l : List Int} (h1 : l.Nodup) (h2 : ∀ e ∈ l,0 <= e ∧ e < m) : Ay l (FR m l) = false:=Jq fun i hi => by
 have h3:=h2 _ (List.getElem_mem hi)
 unfold FR btw
 rw [wrap_in (by omega),Bool.or_eq_false_iff]
 refine ⟨by simp; omega,?_⟩
 rw [<- Bool.not_eq_true,List.contains_iff_mem]
 intro hm
 obtain ⟨j,hj,he⟩:=List.mem_iff_getElem.1 hm
 rw [List.length_take] at hj
 rw [List.getElem_take] at he
 rw [List.nodup_iff_pairwise_ne,List.pairwise_iff_getElem] at h1
 exact h1 j i (by omega) hi (by omega) he
theorem Wj (a : Atm) : (avL a 5).Nodup:=by
 unfold avL
 rw [List.nodup_iff_pairwise_ne,List.pairwise_map]
 have h : ((List.range 5).filter fun (v : Nat) => a.2.contains (v : Int)).Nodup:=List.Nodup.sublist List.filter_sublist List.nodup_range
 rw [List.nodup_iff_pairwise_ne] at h
 exact h.imp fun h e => h (by omega)
theorem Ht {q : Qry} {o : List Int} (h : Ph q o = true) : (o.length : Int) = q.1 ∧ o.Nodup ∧ (∀ v ∈ o,0 <= v ∧ v < q.1) ∧ ∀ v : Int,0 <= v -> v < q.1 -> v ∈ o:=by
 unfold Ph at h
 simp only [Bool.and_eq_true,Bool.not_eq_true',beq_iff_eq] at h
 have hn:=LZ h.1
 have h2:=dX hn h.2.2
 refine ⟨h.2.1,h2.1,h2.2,fun v h0 h1 => ?_⟩
 apply Classical.byContradiction
 intro hno
 have:=few q.1.toNat (v :: o) (List.nodup_cons.2 ⟨hno,h2.1⟩) (fun e he => by
  rcases List.mem_cons.1 he with rfl | he
  ·omega
  ·have:=h2.2 e he; omega)
 rw [List.length_cons] at this
 have:=h.2.1
 omega
def KP (V o : List Int) : Nat -> List Int
 | 0 => []
 | k + 1 => KP V o k ++ cond (decide (0 <= EL V (atI o (k : Int))) && !(KP V o k).contains (EL V (atI o (k : Int)))) [EL V (atI o (k : Int))] []
theorem Pz (V o : List Int) : ∀ k,(KP V o k).length <= k
 | 0 => by simp [KP]
 | k + 1 => by
  have:=Pz V o k
  rw [KP,List.length_append]
  cases decide (0 <= EL V (atI o (k : Int))) && !(KP V o k).contains (EL V (atI o (k : Int)))
  ·rw [cond_false,List.length_nil]; omega
  ·rw [cond_true,List.length_singleton]; omega
theorem PA (V o : List Int) : ∀ k,(KP V o k).Nodup
 | 0 => List.nodup_nil
 | k + 1 => by
  rw [KP]
  cases hb : decide (0 <= EL V (atI o (k : Int))) && !(KP V o k).contains (EL V (atI o (k : Int))) with
  | false => rw [cond_false,List.append_nil]; exact PA V o k
  | true =>
   rw [Bool.and_eq_true,Bool.not_eq_true'] at hb
   rw [cond_true]
   refine List.nodup_append.2 ⟨PA V o k,by simp,fun x hx y hy e => ?_⟩
   simp only [List.mem_singleton] at hy
   subst e hy
   have:=hb.2
   rw [<- Bool.not_eq_true,List.contains_iff_mem] at this
   exact this hx
theorem W6 {l : List Int} {v : Int} (h : 0 <= EL l v) : EL l v < (l.length : Int) ∧ l.contains v = true:=by
 have hc : l.contains v = true:=by rw [<- Kv]; exact decide_eq_true h
 obtain ⟨k,hk,e1,_⟩:=KJ hc
 exact ⟨by omega,hc⟩
theorem RF (V o : List Int) : ∀ k,∀ x ∈ KP V o k,0 <= x ∧ x < (V.length : Int)
 | 0,x,h => by cases h
 | k + 1,x,h => by
  rw [KP] at h
  rcases List.mem_append.1 h with h | h
  ·exact RF V o k x h
  ·cases hb : decide (0 <= EL V (atI o (k : Int))) && !(KP V o k).contains (EL V (atI o (k : Int))) with
   | false => rw [hb] at h; cases h
   | true =>
    rw [hb,cond_true,List.mem_singleton] at h
    rw [Bool.and_eq_true,decide_eq_true_eq] at hb
    subst h
    exact ⟨hb.1,(W6 hb.1).1⟩
theorem Uk (V o : List Int) {x : Int} : ∀ {d i : Nat},x ∈ KP V o i -> x ∈ KP V o (i + d)
 | 0,_,h => h
 | d + 1,i,h => by
  rw [show i + (d + 1) = (i + d) + 1 by omega,KP]
  exact List.mem_append_left _ (Uk V o h)
theorem Wu {V o : List Int} (hn : V.Nodup) {j i : Nat} (hj : j < V.length) (hi : i < o.length) (he : o[i] = V[j]) : (j : Int) ∈ KP V o o.length:=by
 have hc : V.contains o[i] = true:=by rw [List.contains_iff_mem,he]; exact List.getElem_mem hj
 obtain ⟨p,hp,e1,e2⟩:=KJ hc
 have hpj : p = j:=by
  apply Classical.byContradiction
  intro hne
  rw [List.nodup_iff_pairwise_ne,List.pairwise_iff_getElem] at hn
  rw [he] at e2
  rcases Nat.lt_or_ge p j with h | h
  ·exact hn p j hp hj h e2
  ·exact hn j p hj hp (by omega) e2.symm
 have hmem : (j : Int) ∈ KP V o (i + 1):=by
  rw [KP,Gx hi,e1,hpj]
  rw [decide_eq_true (by omega : (0 : Int) <= (j : Int)),Bool.true_and]
  cases hb : (KP V o i).contains (j : Int) with
  | true => exact List.mem_append_left _ (List.contains_iff_mem.1 hb)
  | false => exact List.mem_append_right _ (by simp)
 have:=Uk V o (d:=o.length - (i + 1)) hmem
 rwa [show i + 1 + (o.length - (i + 1)) = o.length by omega] at this
theorem Uj {V o : List Int} (hn : V.Nodup) (h : ∀ v ∈ V,v ∈ o) : (KP V o o.length).length = V.length:=by
 have h1:=few V.length (KP V o o.length) (PA V o _) (RF V o _)
 have h2 : ((List.range V.length).map fun (j : Nat) => (j : Int)).length <= (KP V o o.length).length:=by
  refine SX ?_ ?_
  ·rw [List.nodup_iff_pairwise_ne,List.pairwise_map]
   have h:=List.nodup_range (n:=V.length)
   rw [List.nodup_iff_pairwise_ne] at h
   exact h.imp fun h e => h (by omega)
  ·intro x hx
   obtain ⟨j,hj,rfl⟩:=List.mem_map.1 hx
   have hj:=List.mem_range.1 hj
   obtain ⟨i,hi,he⟩:=List.mem_iff_getElem.1 (h _ (List.getElem_mem hj))
   exact Wu hn hj hi he
 rw [List.length_map,List.length_range] at h2
 omega
def Wt (a : Atm) (o : List Int) : List Int:=KP (avL a 5) o o.length
theorem jC {a : Atm} {o : List Int} (ha : KO a) (ho : o.length <= 5) : DW a o = some (Wt a o):=by
 have hal : a.2.length <= lim:=by have:=ha.1; unfold lim; omega
 have hv5:=JL a 5
 unfold DW
 rw [j5 hal,AB]
 have:=B8 (body:=Bf o (avL a 5)) (out:=Wt a o) (fun k => (KP (avL a 5) o k,(k : Int))) o.length (fun k hk rec => by
  have hl:=Pz (avL a 5) o k
  have hJ : ∀ (v : Int) (b : Bool),BI rec (KP (avL a 5) o k) (k : Int) v b = rec (KP (avL a 5) o k ++ cond b [v] [],((k + 1 : Nat) : Int)):=fun v b => by
   rw [BI]
   cases b with
   | true => rw [cond_true,Ar (by simp only [List.length_singleton]; unfold lim; omega),BJ,AF hk (by unfold maxLen; omega)]; rfl
   | false => rw [cond_false,BJ,AF hk (by unfold maxLen; omega),cond_false,List.append_nil]
  rw [Bf,KP]
  rw [Az hk,Ai hk,cond_true,AB,Pj (by unfold lim; omega),AB,Gx hk]
  cases hd : decide (0 <= EL (avL a 5) o[k]) with
  | true => rw [cond_true,Pj (by unfold lim; omega),AB,WD,hJ,Bool.true_and]
  | false => rw [cond_false,hJ,Bool.false_and]) (fun rec => by rw [Bf]; rw [Ax]; rfl) fz (FZ (by unfold lim; omega))
 rw [show ((([] : List Int),(0 : Int))) = (KP (avL a 5) o 0,((0 : Nat) : Int)) from rfl,this]
 rfl
theorem gm {a : Atm} {o : List Int} (ha : KO a) (ho : o.length <= 5) : DR a o = some (Wt a o):=by
 have hal : a.2.length <= lim:=by have:=ha.1; unfold lim; omega
 have hv5:=JL a 5
 unfold DR
 rw [jX hal (fun v => be hal v),AB]
 have:=B8 (body:=Be o (avL a 5)) (out:=Wt a o) (fun k => (KP (avL a 5) o k,(k : Int))) o.length (fun k hk rec => by
  have hl:=Pz (avL a 5) o k
  have hJ : ∀ (v : Int) (b : Bool),BD rec (KP (avL a 5) o k) (k : Int) v b = rec (KP (avL a 5) o k ++ cond b [v] [],((k + 1 : Nat) : Int)):=fun v b => by
   rw [BD]
   cases b with
   | true => rw [cond_true,Ar (by simp only [List.length_singleton]; unfold lim; omega),BE,AF hk (by unfold maxLen; omega)]; rfl
   | false => rw [cond_false,BE,AF hk (by unfold maxLen; omega),cond_false,List.append_nil]
  rw [Be,KP]
  rw [Az hk,Ai hk,cond_true,AB,UP (by unfold lim; omega),AB,Gx hk]
  cases hd : decide (0 <= EL (avL a 5) o[k]) with
  | true => rw [cond_true,Y4 (by unfold lim; omega),AB,hJ,Bool.true_and]
  | false => rw [cond_false,hJ,Bool.false_and]) (fun rec => by rw [Be]; rw [Ax]; rfl) fz (FZ (by unfold lim; omega))
 rw [show ((([] : List Int),(0 : Int))) = (KP (avL a 5) o 0,((0 : Nat) : Int)) from rfl,this]
 rfl
def TS (r : Int × List (List Int)) (c : List Int) : Prop:=M5 r = true ∧ (c.length : Int) = r.1 ∧ c.Nodup ∧ ∀ e ∈ c,0 <= e ∧ e < r.1
def OT (r : Int × List (List Int)) (c : List Int) : Int × List (List Int):=((c.length : Int),sortB (r.2.map fun x => MG x c))
theorem P2 {r : Int × List (List Int)} {c : List Int} (h : TS r c) : Hi r.2 ∧ c.length <= 5 ∧ (∀ x ∈ r.2,∀ e ∈ c,0 <= e ∧ e < (x.length : Int)) ∧ (∀ x ∈ r.2.map fun x => MG x c,(x.length : Int) = (c.length : Int) ∧ MV x = true) ∧ r.2.length <= 4000:=by
 obtain ⟨h1,h2,h3,h4⟩:=h
 have h5:=KK h1
 refine ⟨⟨by have:=h5.2.2.1; unfold lim; omega,fun x hx => by have:=(h5.2.2.2 x hx).1; unfold lim; omega⟩,by omega,fun x hx e he => by have:=(h5.2.2.2 x hx).1; have:=h4 e he; omega,fun y hy => ?_,h5.2.2.1⟩
 obtain ⟨x,hx,rfl⟩:=List.mem_map.1 hy
 refine ⟨by unfold MG; rw [List.length_map],XE fun v hv => ?_⟩
 unfold MG at hv
 obtain ⟨e,he,rfl⟩:=List.mem_map.1 hv
 have h6:=h4 e he
 have h7:=h5.2.2.2 x hx
 have e2 : e = ((e.toNat : Nat) : Int):=by omega
 rw [e2,Gx (by omega)]
 exact T7 h7.2 (by omega)
theorem Vz {r : Int × List (List Int)} {c : List Int} (h : TS r c) : btw (c.length : Int) 0 5 = true ∧ Hi (r.2.map fun x => MG x c):=by
 obtain ⟨h1,h2,h3,h4,h5⟩:=P2 h
 refine ⟨by unfold btw; simp; omega,by rw [List.length_map]; exact h1.1,fun x hx => by have:=(h4 x hx).1; unfold lim; omega⟩
theorem dS {r : Int × List (List Int)} {c : List Int} (h : TS r c) : GX r c = some (OT r c,true):=by
 obtain ⟨h1,h2,h3,h4,h5⟩:=P2 h
 obtain ⟨h6,h7⟩:=Vz h
 obtain ⟨g1,g2,g3,g4⟩:=h
 have hr:=KK g1
 have hloop : Ah (Fw r c) fz 0 = some (.inl ()):=by
  have:=Lz (B:=Fw r c) (n:=c.length) (fun _ => false) ((0,[]),false) (by unfold lim; omega) (fun k hk rec => by
   have he:=g4 _ (List.getElem_mem hk)
   rw [Fw]
   rw [Az hk,Ai hk,cond_true,AB,H4,AB,wrap_in (by omega),AF hk (by unfold maxLen; omega)]
   have : btw c[k] 0 (r.1 - 1) = true:=by unfold btw; simp; omega
   rw [this]; rfl) (fun rec => by rw [Fw]; rw [Ax]; rfl)
  rw [this]
  have e : ((List.range c.length).any fun _ => false) = false:=by rw [List.any_eq_false]; intro _ _; simp
  rw [e]; rfl
 have hrows : Ah (Gv r c) fz (([] : List (List Int)),0) = some (r.2.map fun x => MG x c) :=
  G8 (a:=r.2) (h:=fun x => MG x c) h1.1 (fun k hk rec => by
   rw [Gv]
   rw [Az hk,Ai hk,AF hk (Au h1.1),cond_true,AB,dF (by unfold lim; omega) (h3 _ (List.getElem_mem hk)),AB,Ar (by simp only [List.length_map,List.length_take,List.length_singleton]; unfold lim; omega)]) (fun rec y => by rw [Gv]; rw [Ax]; rfl)
 have hp : H8 r c = some (OT r c,true):=by
  unfold H8 OT
  rw [hloop,AB]
  simp only
  rw [Xi h1,AB,g1,Bool.not_true,cond_false,decide_eq_false (by omega),cond_false,hrows,AB,jF h7,AB,ZA h6 (by rw [List.length_map]; exact h5) h4]
 unfold GX
 rw [Yq (by unfold lim; omega),AB,Yt (by omega) g3 (fun e he => by have:=g4 e he; omega),decide_eq_true (by omega)]
 rw [show ((c.length : Int) != r.1) = false by rw [g2]; simp,hp]
 rfl
theorem br {r : Int × List (List Int)} {c : List Int} (h : TS r c) : GN r c = some (OT r c,true):=by
 obtain ⟨h1,h2,h3,h4,h5⟩:=P2 h
 obtain ⟨h6,h7⟩:=Vz h
 obtain ⟨g1,g2,g3,g4⟩:=h
 have hr:=KK g1
 have hfit : DE r.1 c = some true:=by
  by_cases h0 : c.length = 0
  ·have : c = []:=List.eq_nil_of_length_eq_zero h0
   subst this
   unfold DE
   rw [decide_eq_false (by simp),cond_false]
   have e : Ah (Cx r.1 []) fz 0 = some (.inl ()):=B8 (body:=Cx r.1 []) (fun _ => (0 : Int)) 0 (fun k hk => absurd hk (by omega)) (fun rec => by rw [Cx]; rfl) fz (by unfold fz; omega)
   rw [e]; rfl
  ·exact XU (by omega) h2 g4
 have hrows : Ah (Gb r c) fz (([] : List (List Int)),0) = some (r.2.map fun x => MG x c) :=
  G8 (a:=r.2) (h:=fun x => MG x c) h1.1 (fun k hk rec => by
   rw [Gb]
   rw [Az hk,Ai hk,AF hk (Au h1.1),cond_true,AB,XX (by unfold lim; omega) (h3 _ (List.getElem_mem hk)),AB,Ar (by simp only [List.length_map,List.length_take,List.length_singleton]; unfold lim; omega)]) (fun rec y => by rw [Gb]; rw [Ax]; rfl)
 have hp : HT r c = some (OT r c,true):=by
  unfold HT OT
  rw [US h1,AB,g1,Bool.not_true,cond_false,hfit,AB,Bool.not_true,cond_false,hrows,AB,kD h7,AB,ZA h6 (by rw [List.length_map]; exact h5) h4]
 unfold GN F3 DB
 rw [decide_eq_true (by omega),cond_true,Y9 (by unfold lim; omega),AB,Yt (by omega) g3 (fun e he => by have:=g4 e he; omega)]
 rw [show ((c.length : Int) != r.1) = false by rw [g2]; simp,hp]
 rfl
theorem Td {r : Int × List (List Int)} {c : List Int} (h : TS r c) : M5 (OT r c) = true ∧ (OT r c).2.length <= r.2.length:=by
 obtain ⟨h1,h2,h3,h4,h5⟩:=P2 h
 refine ⟨P7 (Vz h).1 (by rw [List.length_map]; exact h5) h4,?_⟩
 unfold OT
 have:=Iv (r.2.map fun x => MG x c)
 rw [List.length_map] at this
 exact this
def Re (d : List Tbl) (o : List Int) (a : Atm) : Int × List (List Int):=OT (abB d a) (Wt a o)
theorem Pp {d : List Tbl} {q : Qry} {o : List Int} {a : Atm} (hq : Ki q = true) (ho : Ph q o = true) (ha : a ∈ q.2.1) (hf : FY d a = true) : KO a ∧ TS (abB d a) (Wt a o):=by
 have h1:=Ob hq
 have h2:=h1.2.2.2 a ha
 have hok : KO a:=⟨h2.1,fun v hv => by have:=h2.2 v hv; omega⟩
 have h3:=Ht ho
 have hfull : (Wt a o).length = (avL a 5).length:=Uj (Wj a) fun v hv => by
  have hm:=Nx.1 hv
  have:=h2.2 v (List.contains_iff_mem.1 hm.2)
  exact h3.2.2.2 v this.1 this.2
 refine ⟨hok,(XB hok hf).1,?_,PA _ _ _,fun e he => ?_⟩
 ·show ((Wt a o).length : Int) = ((avL a 5).length : Int)
  rw [hfull]
 ·exact RF _ _ _ e he
theorem VG {d : List Tbl} {q : Qry} (h : Ik d q = true) : Ki q = true ∧ dbB d = true ∧ ∀ a ∈ q.2.1,FY d a = true:=by
 unfold Ik at h
 simp only [Bool.and_eq_true,Bool.not_eq_true'] at h
 refine ⟨h.1,h.2.1,fun a ha => ?_⟩
 obtain ⟨k,hk,rfl⟩:=List.mem_iff_getElem.1 ha
 have:=FE h.2.2 hk
 simpa using this
def Pn (d : List Tbl) (q : Qry) (o : List Int) : List (Int × List (List Int)) × Bool:=cond (Ik d q && Ph q o) (q.2.1.map (Re d o),true) ([],false)
theorem Z2 {d : List Tbl} {q : Qry} {o : List Int} (h : Q7 d) (hq : smQ q) (ho : o.length <= lim) : Gu d q o = some (Pn d q o):=by
 unfold Gu Pn
 rw [Yr h hq,AB]
 cases hf : Ik d q with
 | false => rfl
 | true =>
  rw [Bool.not_true,cond_false,VN hq ho,AB]
  cases hor : Ph q o with
  | false => rfl
  | true =>
   have hfit:=VG hf
   have h1:=Ob hfit.1
   have hol : o.length <= 5:=by have:=(Ht hor).1; omega
   rw [Bool.not_true,cond_false]
   have:=aG (v:=(([] : List (Int × List (List Int))),false)) (B:=EW d q o) (n:=q.2.1.length) (fun k => (q.2.1.take k).map (Re d o)) (fun _ => false) hq.1 (fun k hk rec => by
    have hmem:=List.getElem_mem hk
    obtain ⟨hok,hp⟩:=Pp hfit.1 hor hmem (hfit.2.2 _ hmem)
    have hs:=dS hp
    rw [EW]
    rw [Az hk,Ai hk,AF hk (Au hq.1),cond_true,AB,j4 h hok (hfit.2.2 _ hmem),AB,AB,jC hok hol,AB,hs,AB,Bool.not_true,cond_false,Ar (by simp only [List.length_map,List.length_take,List.length_singleton]; unfold lim; omega),List.take_succ_eq_append_getElem hk,List.map_append]
    rfl) (fun rec => by rw [EW]; rw [Ax]; rfl)
   have e : ((List.range q.2.1.length).any fun _ => false) = false:=by rw [List.any_eq_false]; intro _ _; simp
   rw [e,List.take_length] at this
   rw [show ((([] : List (Int × List (List Int))),(0 : Int))) = ((q.2.1.take 0).map (Re d o),0) from rfl,this]
   rfl
theorem Zd {d : List Tbl} {q : Qry} {o : List Int} (h : Q7 d) (hq : smQ q) (ho : o.length <= lim) : Ga d q o = some (Pn d q o):=by
 unfold Ga Pn
 rw [XY h hq,AB]
 cases hf : Ik d q with
 | false => rfl
 | true =>
  rw [Bool.not_true,cond_false,UR hq ho,AB]
  cases hor : Ph q o with
  | false => rfl
  | true =>
   have hfit:=VG hf
   have h1:=Ob hfit.1
   have hol : o.length <= 5:=by have:=(Ht hor).1; omega
   rw [Bool.not_true,cond_false]
   rw [G8 (a:=q.2.1) (h:=Re d o) hq.1 (fun k hk rec => by
    have hmem:=List.getElem_mem hk
    obtain ⟨hok,hp⟩:=Pp hfit.1 hor hmem (hfit.2.2 _ hmem)
    have hs:=br hp
    rw [F1]
    rw [Az hk,Ai hk,AF hk (Au hq.1),cond_true,AB,jW h hok (hfit.2.2 _ hmem),AB,gm hok hol,AB,hs,AB,Ar (by simp only [List.length_map,List.length_take,List.length_singleton]; unfold lim; omega)]
    rfl) (fun rec y => by rw [F1]; rw [Ax]; rfl)]
   rfl
end Go.Proofs.YtkclaipnejgloaaGreatDoor
