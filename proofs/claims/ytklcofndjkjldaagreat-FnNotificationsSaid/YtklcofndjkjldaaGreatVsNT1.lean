/-
 All bindings: the program finds the rows that the reference finds. On the printed functions; conditions: sizes.
-/
import Derived.Test.YtklcofndjkjldaaGreatAlNT1
import Derived.Test.YtklcofndjkjldaaGreatUnNT1
namespace Go.Proofs.YtklcofndjkjldaaGreat
open Go.RowKit
set_option linter.unusedVariables false
set_option linter.unusedSimpArgs false
def Na (W r A : List Int) : List Int:=A.map fun v => atI r (Cg W v)
theorem OD {u : List Int} (g : Int -> Int) {v : Int} (hv : v ∈ u) : atI (u.map g) (Cg u v) = g v:=by
 obtain ⟨k,hk,e1,e2⟩:=IG (List.contains_iff_mem.2 hv)
 rw [e1,Gb (by rw [List.length_map]; exact hk),List.getElem_map,e2]
theorem PH {W r : List Int} (hW : W.Nodup) (hr : r.length = W.length) : Na W r W = r:=by
 refine List.ext_getElem (by unfold Na; rw [List.length_map,hr]) fun i h1 h2 => ?_
 have hi : i < W.length:=by omega
 have e9 : (Na W r W)[i]'h1 = atI r (Cg W W[i]):=List.getElem_map _
 rw [e9]
 obtain ⟨k,hk,e1,e2⟩:=IG (List.contains_iff_mem.2 (List.getElem_mem hi))
 have : k = i:=(List.getElem_inj hW).1 e2
 subst this
 rw [e1,Gb h2]
theorem Vf {W r A B : List Int} (h : ∀ v ∈ A,v ∈ B) : Na B (Na W r B) A = Na W r A:=by
 unfold Na
 exact List.map_congr_left fun v hv => OD (fun v => atI r (Cg W v)) (h v hv)
def IB (a r b s u : List Int) : Bool:=u.all fun v => !(a.contains v && (b.contains v && (atI r (Cg a v) != atI s (Cg b v))))
def Og (a r b s : List Int) (v : Int) : Int:=if a.contains v = true then atI r (Cg a v) else atI s (Cg b v)
def J5 (a r b s u : List Int) : List Int:=u.map (Og a r b s)
theorem V4 {W A u : List Int} {rows B : List (List Int)} (hW : W.Nodup) (hA : A.Nodup) (hu : u.Nodup) (hm : ∀ v,v ∈ u ↔ v ∈ W ∨ v ∈ A) (hr : ∀ r ∈ rows,r.length = W.length) (hs : ∀ s ∈ B,s.length = A.length) (z : List Int) :
  (∃ r ∈ rows,∃ s ∈ B,IB W r A s u = true ∧ z = J5 W r A s u) ↔ z.length = u.length ∧ Na u z W ∈ rows ∧ Na u z A ∈ B:=by
 constructor
 ·rintro ⟨r,h1,s,h2,h3,rfl⟩
  have hat : ∀ v ∈ u,atI (J5 W r A s u) (Cg u v) = Og W r A s v:=fun v hv => OD _ hv
  refine ⟨by unfold J5; rw [List.length_map],?_,?_⟩
  ·have e : Na u (J5 W r A s u) W = Na W r W:=by
    unfold Na
    refine List.map_congr_left fun v hv => ?_
    rw [hat v ((hm v).2 (.inl hv))]
    unfold Og
    rw [if_pos (List.contains_iff_mem.2 hv)]
   rw [e,PH hW (hr r h1)]
   exact h1
  ·have e : Na u (J5 W r A s u) A = Na A s A:=by
    unfold Na
    refine List.map_congr_left fun v hv => ?_
    have hvu:=(hm v).2 (.inr hv)
    rw [hat v hvu]
    unfold Og
    by_cases hc : W.contains v = true
    ·rw [if_pos hc]
     have:=List.all_eq_true.1 h3 v hvu
     rw [hc,List.contains_iff_mem.2 hv] at this
     simpa using this
    ·rw [if_neg hc]
   rw [e,PH hA (hs s h2)]
   exact h2
 ·rintro ⟨h1,h2,h3⟩
  refine ⟨_,h2,_,h3,?_,?_⟩
  ·unfold IB
   rw [List.all_eq_true]
   intro v hv
   cases c1 : W.contains v with
   | false => rfl
   | true =>
    cases c2 : A.contains v with
    | false => rfl
    | true =>
     rw [show atI (Na u z W) (Cg W v) = atI z (Cg u v) from OD (fun v => atI z (Cg u v)) (List.contains_iff_mem.1 c1),show atI (Na u z A) (Cg A v) = atI z (Cg u v) from OD (fun v => atI z (Cg u v)) (List.contains_iff_mem.1 c2)]
     simp
  ·have e : J5 W (Na u z W) A (Na u z A) u = Na u z u:=by
    unfold J5
    show _ = u.map _
    refine List.map_congr_left fun v hv => ?_
    unfold Og
    by_cases hc : W.contains v = true
    ·rw [if_pos hc]; exact OD (fun v => atI z (Cg u v)) (List.contains_iff_mem.1 hc)
    ·rw [if_neg hc]
     rcases (hm v).1 hv with h | h
     ·exact absurd (List.contains_iff_mem.2 h) hc
     ·exact OD (fun v => atI z (Cg u v)) h
   rw [e,PH hu h1]
theorem Mv {a r : List Int} {v : Int} (h : a.contains v = true) (hr : r.length = a.length) : decide (0 <= Cg a v) = true ∧ AK r (Cg a v) = some (atI r (Cg a v)):=by
 obtain ⟨k,hk,e1,e2⟩:=IG h
 refine ⟨by rw [Jw,h],?_⟩
 rw [e1]
 exact Mi ⟨by omega,by omega⟩
theorem ao {u a r b s : List Int} (hu : u.length <= lim) (ha : a.length <= lim) (hb : b.length <= lim) (hr : r.length = a.length) (hs : s.length = b.length) (hin : ∀ v ∈ u,a.contains v = true ∨ b.contains v = true) :
  Kf u a r b s = some (cond (IB a r b s u) (J5 a r b s u,true) ([],false)):=by
 obtain ⟨o,e,ho⟩:=F0 (B:=Dx u a r b s) (fun st => ∃ k : Nat,st = (J5 a r b s (u.take k),(k : Int)) ∧ k <= u.length ∧ IB a r b s (u.take k) = true) (fun st => u.length - st.2.toNat) (fun o => o = cond (IB a r b s u) (.inl (J5 a r b s u)) (.inr ([],false))) (fun st hst => by
  obtain ⟨k,rfl,hk,hag⟩:=hst
  by_cases hlt : k < u.length
  ·have hT : u.take (k + 1) = u.take k ++ [u[k]]:=by rw [List.take_add_one,List.getElem?_eq_getElem hlt]; rfl
   have hW : IntKind.i64.wrap ((k : Int) + 1) = ((k + 1 : Nat) : Int):=AO hlt (At hu)
   have hl : ∀ x : Int,(J5 a r b s (u.take k)).length + [x].length <= lim:=fun x => by unfold J5; rw [List.length_map,List.length_take,List.length_singleton]; omega
   have hg : ∀ x : Int,x = Og a r b s u[k] -> J5 a r b s (u.take k) ++ [x] = J5 a r b s (u.take (k + 1)):=fun x hx => by
    rw [hT]; unfold J5; rw [List.map_append,hx]; rfl
   have hstep : (!(a.contains u[k] && (b.contains u[k] && (atI r (Cg a u[k]) != atI s (Cg b u[k]))))) = true -> IB a r b s (u.take (k + 1)) = true:=fun h => by
    unfold IB at hag ⊢
    rw [hT,List.all_append,hag,List.all_cons,h]; rfl
   have hmem:=List.getElem_mem hlt
   cases ca : a.contains u[k] with
   | true =>
    obtain ⟨a1,a2⟩:=Mv ca hr
    have hv : Og a r b s u[k] = atI r (Cg a u[k]):=by unfold Og; rw [if_pos ca]
    cases cb : b.contains u[k] with
    | true =>
     obtain ⟨b1,b2⟩:=Mv cb hs
     cases hne : (atI r (Cg a u[k]) != atI s (Cg b u[k])) with
     | true =>
      left
      have hf : IB a r b s u = false:=by
       cases h : IB a r b s u with
       | false => rfl
       | true =>
        have:=List.all_eq_true.1 h u[k] hmem
        rw [ca,cb,hne] at this
        cases this
      refine ⟨_,rfl,fun rec => ?_⟩
      rw [hf]
      simp only [Dx]
      rw [AF hlt,cond_true,Aj hlt,AE,KP ha,AE,KP hb,AE,a1,cond_true,b1,cond_true,a2,AE,b2,AE,hne]; rfl
     | false =>
      right
      refine ⟨_,⟨k + 1,rfl,hlt,hstep (by rw [ca,cb,hne]; rfl)⟩,by simp only [Int.toNat_natCast]; omega,fun rec => ?_⟩
      simp only [Dx]
      rw [AF hlt,cond_true,Aj hlt,AE,KP ha,AE,KP hb,AE,a1,cond_true,b1,cond_true,a2,AE,b2,AE,hne]
      simp only [Fk,Gi]
      rw [cond_false,a1,cond_true,a2,AE,Ak (hl _),hg _ hv.symm,hW]
    | false =>
     right
     refine ⟨_,⟨k + 1,rfl,hlt,hstep (by rw [ca,cb]; rfl)⟩,by simp only [Int.toNat_natCast]; omega,fun rec => ?_⟩
     simp only [Dx]
     rw [AF hlt,cond_true,Aj hlt,AE,KP ha,AE,KP hb,AE,a1,cond_true,Jw,cb,cond_false]
     simp only [Fk,Gi]
     rw [cond_false,a1,cond_true,a2,AE,Ak (hl _),hg _ hv.symm,hW]
   | false =>
    have cb : b.contains u[k] = true:=(hin _ hmem).resolve_left (by rw [ca]; simp)
    obtain ⟨b1,b2⟩:=Mv cb hs
    have hv : Og a r b s u[k] = atI s (Cg b u[k]):=by unfold Og; rw [if_neg (by rw [ca]; simp)]
    right
    refine ⟨_,⟨k + 1,rfl,hlt,hstep (by rw [ca]; rfl)⟩,by simp only [Int.toNat_natCast]; omega,fun rec => ?_⟩
    simp only [Dx]
    rw [AF hlt,cond_true,Aj hlt,AE,KP ha,AE,KP hb,AE,Jw,ca,cond_false]
    simp only [Fk,Gi]
    rw [cond_false,Jw,ca,cond_false,b2,AE,Ak (hl _),hg _ hv.symm,hW]
  ·have hk : k = u.length:=by omega
   left
   refine ⟨_,rfl,fun rec => ?_⟩
   simp only [Dx]
   rw [hk,Az,cond_false]
   rw [hk,List.take_length] at hag
   rw [hag,List.take_length]; rfl) fz ([],0) ⟨0,rfl,Nat.zero_le _,rfl⟩ (by unfold fz; unfold lim at hu; simp only; omega)
 unfold Kf
 rw [e,ho]
 cases IB a r b s u <;> rfl
section
variable {d : List Tbl} {q : Qry}
def gl1 (W A u r s : List Int) : List (List Int):=cond (IB W r A s u) [J5 W r A s u] []
def glR (W A u : List Int) (B : List (List Int)) (r : List Int) : List (List Int):=B.flatMap (gl1 W A u r)
theorem Yd (W A u r s : List Int) : (gl1 W A u r s).length <= 1:=by unfold gl1; cases IB W r A s u <;> simp
theorem R8 (W A u r : List Int) (B : List (List Int)) (k : Nat) : ((B.take k).flatMap (gl1 W A u r)).length <= k:=by
 refine Nat.le_trans ?_ (show (B.take k).length <= k by rw [List.length_take]; omega)
 generalize B.take k = l
 induction l with
 | nil => simp
 | cons s l ih => have:=Yd W A u r s; rw [List.flatMap_cons,List.length_append,List.length_cons]; omega
theorem OJ {α β : Type} (f : α -> List β) {l : List α} {k : Nat} (hk : k < l.length) : (l.take (k + 1)).flatMap f = (l.take k).flatMap f ++ f l[k]:=by
 rw [List.take_add_one,List.getElem?_eq_getElem hk,Option.toList_some,List.flatMap_append,List.flatMap_cons,List.flatMap_nil,List.append_nil]
theorem d7 {m : Int} {W A u r : List Int} {B y : List (List Int)} (hB : B.length <= 16) (hy : y.length + 16 <= lim) (hu : u.length <= lim) (hW : W.length <= lim) (hA : A.length <= lim) (hr : r.length = W.length) (hs : ∀ s ∈ B,s.length = A.length) (hin : ∀ v ∈ u,W.contains v = true ∨ A.contains v = true) :
  Al (Di W (A,(m,B)) u r) fz (y,0) = some (y ++ glR W A u B r):=by
 have:=Ed (body:=Di W (A,(m,B)) u r) (out:=y ++ glR W A u B r) (fun k => (y ++ (B.take k).flatMap (gl1 W A u r),(k : Int))) B.length (fun k hk rec => by
  have h1:=R8 W A u r B k
  have hW' : IntKind.i64.wrap ((k : Int) + 1) = ((k + 1 : Nat) : Int):=by rw [wrap_in (by omega)]; simp
  simp only [Di]
  rw [AF hk,cond_true,Aj hk,AE,ao hu hW hA hr (hs _ (List.getElem_mem hk)) hin,AE,OJ _ hk,<- List.append_assoc]
  have e1 : gl1 W A u r B[k] = cond (IB W r A B[k] u) [J5 W r A B[k] u] []:=rfl
  rw [e1]
  cases hg : IB W r A B[k] u with
  | true =>
   simp only [cond_true]
   rw [Ak (by simp only [List.length_append,List.length_singleton]; omega)]
   simp only [Eh,hW']
  | false =>
   simp only [cond_false,List.append_nil,Eh,hW']) (fun rec => by
  simp only [Di]
  rw [Az,cond_false,List.take_length]; rfl) fz (by unfold fz; omega)
 simpa using this
theorem d6 {m : Int} {W A u : List Int} {rows B : List (List Int)} (hB : B.length <= 16) (hrows : rows.length <= 4096) (hu : u.length <= lim) (hW : W.length <= lim) (hA : A.length <= lim) (hr : ∀ r ∈ rows,r.length = W.length) (hs : ∀ s ∈ B,s.length = A.length) (hin : ∀ v ∈ u,W.contains v = true ∨ A.contains v = true) :
  Al (Dh rows W (A,(m,B)) u) fz (([] : List (List Int)),0) = some (rows.flatMap (glR W A u B)) ∧ (rows.flatMap (glR W A u B)).length <= rows.length * 16:=by
 have hlen : ∀ k,((rows.take k).flatMap (glR W A u B)).length <= (rows.take k).length * 16:=fun k => by
  generalize rows.take k = l
  induction l with
  | nil => simp
  | cons r l ih =>
   have h1:=R8 W A u r B B.length
   rw [List.take_length] at h1
   rw [List.flatMap_cons,List.length_append,List.length_cons]
   unfold glR at ih ⊢
   omega
 refine ⟨?_,by have:=hlen rows.length; rwa [List.take_length] at this⟩
 have:=Ed (body:=Dh rows W (A,(m,B)) u) (out:=rows.flatMap (glR W A u B)) (fun k => ((rows.take k).flatMap (glR W A u B),(k : Int))) rows.length (fun k hk rec => by
  have h1:=hlen k
  rw [List.length_take] at h1
  have hW' : IntKind.i64.wrap ((k : Int) + 1) = ((k + 1 : Nat) : Int):=by rw [wrap_in (by omega)]; simp
  simp only [Dh]
  rw [AF hk,cond_true,Aj hk,AE,d7 hB (by unfold lim; omega) hu hW hA (hr _ (List.getElem_mem hk)) hs hin,AE,OJ _ hk,hW']) (fun rec => by
  simp only [Dh]
  rw [Az,cond_false,List.take_length]) fz (by unfold fz; omega)
 simpa using this
theorem Nn {n : Nat} {S : Nat -> Bool} {x : Int} : x ∈ FG n S ↔ ∃ v : Nat,v < n ∧ S v = true ∧ x = (v : Int):=by
 unfold FG
 rw [List.mem_map]
 constructor
 ·rintro ⟨v,hv,rfl⟩
  obtain ⟨h1,h2⟩:=List.mem_filter.1 hv
  exact ⟨v,List.mem_range.1 h1,h2,rfl⟩
 ·rintro ⟨v,h1,h2,rfl⟩
  exact ⟨v,List.mem_filter.2 ⟨List.mem_range.2 h1,h2⟩,rfl⟩
theorem OH {l : List Nat} (h : l.Nodup) : (l.map fun (v : Nat) => (v : Int)).Nodup:=by
 unfold List.Nodup at h ⊢
 rw [List.pairwise_map]
 exact h.imp fun h e => h (by omega)
theorem P0 (n : Nat) (S : Nat -> Bool) : (FG n S).Nodup:=OH (List.Nodup.sublist List.filter_sublist List.nodup_range)
theorem TJ (a : Atm) (k : Nat) : (avL a k).Nodup:=OH (List.Nodup.sublist List.filter_sublist List.nodup_range)
theorem TG {n m : Nat} {S : Nat -> Bool} (h : ∀ v,S v = true ↔ v < n) (hnm : n <= m) : FG m S = (List.range n).map fun (v : Nat) => (v : Int):=by
 have key : ∀ k,FG (n + k) S = (List.range n).map fun (v : Nat) => (v : Int):=by
  intro k
  induction k with
  | zero =>
   unfold FG
   rw [Nat.add_zero,List.filter_eq_self.2 fun v hv => (h v).2 (List.mem_range.1 hv)]
  | succ k ih =>
   rw [<- Nat.add_assoc,W0,ih,if_neg (fun h' => by have:=(h _).1 h'; omega),List.append_nil]
 have:=key (m - n)
 rwa [show n + (m - n) = m by omega] at this
theorem Ru {n : Nat} {v : Nat} (h : v < n) : Cg ((List.range n).map fun (v : Nat) => (v : Int)) (v : Int) = (v : Int):=by
 obtain ⟨k,hk,e1,e2⟩:=IG (l:=(List.range n).map fun (v : Nat) => (v : Int)) (v:=(v : Int)) (List.contains_iff_mem.2 (List.mem_map.2 ⟨v,List.mem_range.2 h,rfl⟩))
 rw [List.getElem_map,List.getElem_range] at e2
 rw [e1]; exact e2
theorem Y8 {a : Atm} {z : List Int} (ha : Oe a) (hf : Gc d a = true) : Xz a z ∈ (abB d a).2 ↔ DD z a.2 ∈ (BY d a.1).1.2:=by
 refine ⟨fun h => ?_,XA ha⟩
 obtain ⟨f1,f2,f3⟩:=Ni ha hf
 unfold abB at h
 have h:=(EX _ _).1 h
 unfold Nr at h
 obtain ⟨r,hr,e⟩:=List.mem_map.1 h
 obtain ⟨hr1,hr2⟩:=List.mem_filter.1 hr
 have e2 : DD z a.2 = r:=by
  refine List.ext_getElem (by unfold DD; rw [List.length_map,f1 r hr1]) fun i h1 h2 => ?_
  have hi : i < a.2.length:=by rw [f1 r hr1] at h2; exact h2
  have hv:=ha.2 _ (List.getElem_mem hi)
  have hav : a.2[i] ∈ avL a 5:=Kb.2 ⟨hv,List.contains_iff_mem.2 (List.getElem_mem hi)⟩
  obtain ⟨k,hk,p1,p2⟩:=IG (List.contains_iff_mem.2 hav)
  have ea : (rowOf a r)[k]'(by unfold rowOf; rw [List.length_map]; exact hk) = (Xz a z)[k]'(by unfold Xz; rw [List.length_map]; exact hk):=by simp only [e]
  unfold rowOf Xz at ea
  rw [List.getElem_map,List.getElem_map,p2] at ea
  unfold Q6 at hr2
  have h4:=List.all_eq_true.1 hr2 i (List.mem_range.2 hi)
  rw [Gb hi,beq_iff_eq,Gb h2] at h4
  have e9 : (DD z a.2)[i]'h1 = atI z a.2[i]:=List.getElem_map (atI z)
  rw [e9,<- ea,h4]
 rw [e2]; exact hr1
def BdI (d : List Tbl) (q : Qry) (k : Nat) (rows : List (List Int)) (W : List Int) : Prop :=
 rows.length <= 16 ^ k ∧ (∃ S,W = FG 100 S ∧ ∀ v : Nat,S v = true ↔ ∃ i,∃ hi : i < q.2.1.length,i < k ∧ (v : Int) ∈ avL q.2.1[i] 5) ∧ ∀ z,z ∈ rows ↔ z.length = W.length ∧ ∀ i (hi : i < q.2.1.length),i < k -> Na W z (avL q.2.1[i] 5) ∈ (abB d q.2.1[i]).2
theorem XW {k : Nat} {rows : List (List Int)} {W : List Int} (hk : k < q.2.1.length) (h : BdI d q k rows W) {u : List Int} {S : Nat -> Bool} (hS : W = FG 100 S) (hSv : ∀ v : Nat,S v = true ↔ ∃ i,∃ hi : i < q.2.1.length,i < k ∧ (v : Int) ∈ avL q.2.1[i] 5) (hu : u = FG 100 (OY S (avL q.2.1[k] 5))) (hs : ∀ s ∈ (abB d q.2.1[k]).2,s.length = (avL q.2.1[k] 5).length) (hl : (rows.flatMap (glR W (avL q.2.1[k] 5) u (abB d q.2.1[k]).2)).length <= rows.length * 16) :
  BdI d q (k + 1) (rows.flatMap (glR W (avL q.2.1[k] 5) u (abB d q.2.1[k]).2)) u:=by
 obtain ⟨h1,-,h3⟩:=h
 have hm : ∀ v,v ∈ u ↔ v ∈ W ∨ v ∈ avL q.2.1[k] 5:=fun v => by
  rw [hu,hS,Nn,Nn]
  constructor
  ·rintro ⟨n,h1,h2,rfl⟩
   unfold OY at h2
   rw [Bool.or_eq_true] at h2
   rcases h2 with h2 | h2
   ·exact .inl ⟨n,h1,h2,rfl⟩
   ·exact .inr (List.contains_iff_mem.1 h2)
  ·rintro (⟨n,h1,h2,rfl⟩ | h)
   ·exact ⟨n,h1,by unfold OY; rw [h2]; rfl,rfl⟩
   ·have h5:=(Kb.1 h).1
    obtain ⟨n,rfl⟩:=Int.eq_ofNat_of_zero_le h5.1
    exact ⟨n,by omega,by unfold OY; rw [List.contains_iff_mem.2 h,Bool.or_true],rfl⟩
 have hWn : W.Nodup:=by rw [hS]; exact P0 _ _
 have hun : u.Nodup:=by rw [hu]; exact P0 _ _
 refine ⟨by rw [Nat.pow_succ]; have:=Nat.mul_le_mul_right 16 h1; omega,⟨_,hu,fun v => ?_⟩,fun z => ?_⟩
 ·unfold OY
  rw [Bool.or_eq_true,hSv,List.contains_iff_mem]
  constructor
  ·rintro (⟨i,hi,h4,h5⟩ | h)
   ·exact ⟨i,hi,by omega,h5⟩
   ·exact ⟨k,hk,by omega,h⟩
  ·rintro ⟨i,hi,h4,h5⟩
   rcases Nat.lt_or_ge i k with h | h
   ·exact .inl ⟨i,hi,h,h5⟩
   ·have : i = k:=by omega
    subst this
    exact .inr h5
 ·have hmem : z ∈ rows.flatMap (glR W (avL q.2.1[k] 5) u (abB d q.2.1[k]).2) ↔ ∃ r ∈ rows,∃ s ∈ (abB d q.2.1[k]).2,IB W r (avL q.2.1[k] 5) s u = true ∧ z = J5 W r (avL q.2.1[k] 5) s u:=by
   rw [List.mem_flatMap]
   constructor
   ·rintro ⟨r,hr,hz⟩
    unfold glR at hz
    obtain ⟨s,hs',hz⟩:=List.mem_flatMap.1 hz
    unfold gl1 at hz
    cases hg : IB W r (avL q.2.1[k] 5) s u with
    | true => rw [hg,cond_true,List.mem_singleton] at hz; exact ⟨r,hr,s,hs',hg,hz⟩
    | false => rw [hg,cond_false] at hz; cases hz
   ·rintro ⟨r,hr,s,hs',hg,rfl⟩
    exact ⟨r,hr,List.mem_flatMap.2 ⟨s,hs',by unfold gl1; rw [hg,cond_true]; exact List.mem_singleton.2 rfl⟩⟩
  rw [hmem,V4 hWn (TJ _ _) hun hm (fun r hr => ((h3 r).1 hr).1) hs]
  have hsub : ∀ i (hi : i < q.2.1.length),i < k -> ∀ v ∈ avL q.2.1[i] 5,v ∈ W:=fun i hi hik v hv => by
   have h5:=(Kb.1 hv).1
   obtain ⟨n,rfl⟩:=Int.eq_ofNat_of_zero_le h5.1
   rw [hS,Nn]
   exact ⟨n,by omega,(hSv n).2 ⟨i,hi,hik,hv⟩,rfl⟩
  refine and_congr_right fun hz => ?_
  rw [h3]
  constructor
  ·rintro ⟨⟨-,h4⟩,h5⟩ i hi hik
   rcases Nat.lt_or_ge i k with h | h
   ·have:=h4 i hi h
    rwa [Vf (hsub i hi h)] at this
   ·have : i = k:=by omega
    subst this
    exact h5
  ·intro h4
   refine ⟨⟨by unfold Na; rw [List.length_map],fun i hi hik => ?_⟩,h4 k hk (by omega)⟩
   rw [Vf (hsub i hi hik)]
   exact h4 i hi (by omega)
theorem Rc (h : Iu d) (hs : smQ q) : (J7 d q = false -> Ew d q = some ((0,[]),false)) ∧ (J7 d q = true -> ∃ out,out.length <= 65536 ∧ (∀ z,z ∈ out ↔ IsB d q z) ∧ Ew d q = some (cond (Fi (q.1,sortB out)) ((q.1,sortB out),true) ((0,[]),false))):=by
 unfold Ew
 rw [ax h hs,AE]
 cases hq : J7 d q with
 | false => exact ⟨fun _ => rfl,fun h => by cases h⟩
 | true =>
  refine ⟨fun h => (by cases h),fun _ => ?_⟩
  obtain ⟨g1,g2,g3⟩:=HT hq
  obtain ⟨q1,q2,-,q4⟩:=Hv g1
  have h16 : ∀ k,k <= 4 -> 16 ^ k <= 65536:=fun k hk => Nat.pow_le_pow_right (show 0 < 16 by decide) hk
  have h16' : ∀ k,k <= 3 -> 16 ^ k <= 4096:=fun k hk => Nat.pow_le_pow_right (show 0 < 16 by decide) hk
  obtain ⟨out,e,o1,o2⟩:=F0 (B:=FN d q) (fun st => ∃ k : Nat,st.2.2 = (k : Int) ∧ k <= q.2.1.length ∧ BdI d q k st.1 st.2.1) (fun st => q.2.1.length - st.2.2.toNat) (fun o => o.length <= 65536 ∧ ∀ z,z ∈ o ↔ IsB d q z) (fun st hst => by
   obtain ⟨rows,W,kk⟩:=st
   obtain ⟨k,rfl,hk,hb⟩:=hst
   simp only at hb
   obtain ⟨b1,⟨S,hS,hSv⟩,b3⟩:=hb
   by_cases hlt : k < q.2.1.length
   ·right
    have hmem:=List.getElem_mem hlt
    obtain ⟨hok,hfit⟩:=g2 _ hmem
    obtain ⟨r1,r2⟩:=ZH hok hfit
    have hrr:=(LK r1).2.2.2
    have hs' : ∀ s ∈ (abB d q.2.1[k]).2,s.length = (avL q.2.1[k] 5).length:=fun s hs' => by have h9 : (s.length : Int) = ((avL q.2.1[k] 5).length : Int):=(hrr s hs').1; omega
    have hA:=Nq q.2.1[k] 5
    have hW : W.length <= 100:=by rw [hS]; exact MS 100 S
    have hU:=MS 100 (OY S (avL q.2.1[k] 5))
    obtain ⟨e1,e2⟩:=d6 (m:=((avL q.2.1[k] 5).length : Int)) (W:=W) (A:=avL q.2.1[k] 5) (u:=FG 100 (OY S (avL q.2.1[k] 5))) (rows:=rows) (B:=(abB d q.2.1[k]).2) r2 (by have:=h16' k (by omega); omega) (by unfold lim; omega) (by unfold lim; omega) (by unfold lim; omega) (fun r hr => ((b3 r).1 hr).1) hs' (fun v hv => by
     obtain ⟨n,h1,h2,rfl⟩:=Nn.1 hv
     unfold OY at h2
     rw [Bool.or_eq_true] at h2
     exact h2.imp (fun h => List.contains_iff_mem.2 (by rw [hS]; exact Nn.2 ⟨n,h1,h,rfl⟩)) id)
    refine ⟨(rows.flatMap (glR W (avL q.2.1[k] 5) (FG 100 (OY S (avL q.2.1[k] 5))) (abB d q.2.1[k]).2),FG 100 (OY S (avL q.2.1[k] 5)),((k + 1 : Nat) : Int)),⟨k + 1,rfl,hlt,XW hlt ⟨b1,⟨S,hS,hSv⟩,b3⟩ hS hSv rfl hs' e2⟩,(by show q.2.1.length - ((k + 1 : Nat) : Int).toNat < q.2.1.length - ((k : Nat) : Int).toNat; rw [Int.toNat_natCast,Int.toNat_natCast]; omega),fun rec => ?_⟩
    have hW' : IntKind.i64.wrap ((k : Int) + 1) = ((k + 1 : Nat) : Int):=by rw [wrap_in (by omega)]; simp
    simp only [FN]
    unfold Gw
    rw [AF hlt,cond_true,Aj hlt,AE,gZ (by have:=hok.1; unfold lim; omega) (fun v => hH (by have:=hok.1; unfold lim; omega) v),AE,iG h hok hfit,AE,AE]
    simp only
    rw [hS,Ym (by unfold lim; omega) (fun x hx => by have:=(Kb.1 hx).1; omega),AE,<- hS]
    have e1' : Al (Dh rows W (avL q.2.1[k] 5,abB d q.2.1[k]) (FG 100 (OY S (avL q.2.1[k] 5)))) fz (([] : List (List Int)),0) = _:=e1
    rw [e1',AE,hW']
   ·left
    have hkn : k = q.2.1.length:=by omega
    refine ⟨rows,⟨Nat.le_trans b1 (h16 k (by omega)),fun z => ?_⟩,fun rec => ?_⟩
    ·have hSn : ∀ v : Nat,S v = true ↔ v < q.1.toNat:=fun v => by
      rw [hSv]
      constructor
      ·rintro ⟨i,hi,-,hv⟩
       have:=(q4 _ (List.getElem_mem hi)).2.2 _ (List.contains_iff_mem.1 (Kb.1 hv).2)
       omega
      ·intro hv
       unfold Oc at g1
       simp only [Bool.and_eq_true,Bool.not_eq_true'] at g1
       have hu:=List.any_eq_false.1 g1.2.2.2.2 v (List.mem_range.2 hv)
       simp only [Bool.not_eq_true',Bool.not_eq_false] at hu
       unfold HH at hu
       obtain ⟨a,ha,hv'⟩:=List.any_eq_true.1 hu
       obtain ⟨i,hi,rfl⟩:=List.mem_iff_getElem.1 ha
       exact ⟨i,hi,by omega,Kb.2 ⟨by omega,hv'⟩⟩
     have hWr : W = (List.range q.1.toNat).map fun (v : Nat) => (v : Int):=by rw [hS]; exact TG hSn (by omega)
     rw [b3 z]
     have hWl : W.length = q.1.toNat:=by rw [hWr,List.length_map,List.length_range]
     have hsee : ∀ i (hi : i < q.2.1.length),Na W z (avL q.2.1[i] 5) = Xz q.2.1[i] z:=fun i hi => by
      unfold Na Xz
      refine List.map_congr_left fun v hv => ?_
      have h5:=(q4 _ (List.getElem_mem hi)).2.2 _ (List.contains_iff_mem.1 (Kb.1 hv).2)
      obtain ⟨n,rfl⟩:=Int.eq_ofNat_of_zero_le h5.1
      rw [hWr,Ru (by omega)]
     constructor
     ·rintro ⟨h1,h2⟩
      refine ⟨by omega,fun a ha => ?_⟩
      obtain ⟨i,hi,rfl⟩:=List.mem_iff_getElem.1 ha
      have h3:=h2 i hi (by omega)
      rw [hsee i hi] at h3
      exact (Y8 (g2 _ ha).1 (g2 _ ha).2).1 h3
     ·rintro ⟨h1,h2⟩
      refine ⟨by omega,fun i hi _ => ?_⟩
      rw [hsee i hi]
      exact XA (g2 _ (List.getElem_mem hi)).1 (h2 _ (List.getElem_mem hi))
    ·simp only [FN]
     rw [hkn,Az,cond_false]) fz (([[]] : List (List Int)),([] : List Int),0) ⟨0,rfl,Nat.zero_le _,by simp,⟨fun _ => false,by decide,fun v => ⟨fun h => (by cases h),fun ⟨i,hi,h,_⟩ => absurd h (by omega)⟩⟩,fun z => ⟨fun h => (by rw [List.mem_singleton] at h; subst h; exact ⟨rfl,fun i hi h => absurd h (by omega)⟩),fun h => List.mem_singleton.2 (List.length_eq_zero_iff.1 h.1)⟩⟩ (by unfold fz; simp only; omega)
  have hsm : A9 out:=⟨by unfold lim; omega,fun z hz => by have:=((o2 z).1 hz).1; unfold lim; omega⟩
  refine ⟨out,o1,o2,?_⟩
  rw [Bool.not_true,cond_false,e,AE,Uj hsm,AE,MK (r:=(q.1,sortB out)) (PJ hsm),AE]
  cases Fi (q.1,sortB out) <;> rfl
theorem RP (h : Iu d) (hs : smQ q) : (J7 d q = false -> BZ d q = some (0,[]) ∧ Ew d q = some ((0,[]),false)) ∧ (J7 d q = true -> ∃ R,(∀ z ∈ R,IsB d q z) ∧ Srt R ∧ R.length <= 65536 ∧ BZ d q = some (cond (Fi (q.1,R)) (q.1,R) (0,[])) ∧ Ew d q = some (cond (Fi (q.1,R)) ((q.1,R),true) ((0,[]),false))):=by
 obtain ⟨r,e,r1,r2⟩:=bY h hs
 obtain ⟨i1,i2⟩:=Rc h hs
 refine ⟨fun hq => ⟨by rw [e,r1 hq],i1 hq⟩,fun hq => ?_⟩
 obtain ⟨o,o1,o2,rfl⟩:=r2 hq
 obtain ⟨p,p1,p2,p3⟩:=i2 hq
 obtain ⟨g1,g2,g3⟩:=HT hq
 obtain ⟨q1,q2,-,q4⟩:=Hv g1
 have heq : sortB o = sortB p:=SI (Hw _) (Hw _) fun x => by rw [EX,EX,o2,p2]
 refine ⟨sortB p,fun z hz => (p2 z).1 ((EX _ _).1 hz),Hw _,by have:=GC p; omega,?_,p3⟩
 rw [e]
 unfold nrB
 have hbad : (AU o fun _ x => Kk q.1 x) = false:=by
  unfold AU
  rw [List.any_eq_false]
  intro i hi
  have hi:=List.mem_range.1 hi
  rw [AN hi]
  have hz:=(o2 _).1 (List.getElem_mem hi)
  generalize o[i] = z at hz
  unfold Kk
  have hav : Lo z = true:=TK fun v hv => by
   obtain ⟨k,hk,rfl⟩:=List.mem_iff_getElem.1 hv
   have hu : HH q.2.1 (k : Int) = true:=by
    unfold Oc at g1
    simp only [Bool.and_eq_true,Bool.not_eq_true'] at g1
    have hz1:=hz.1
    have:=List.any_eq_false.1 g1.2.2.2.2 k (List.mem_range.2 (by omega))
    simpa using this
   unfold HH at hu
   obtain ⟨a,ha,hv'⟩:=List.any_eq_true.1 hu
   have hp:=hz.2 a ha
   obtain ⟨hok,hfit⟩:=g2 a ha
   have hfit':=hfit
   unfold Gc at hfit'
   rw [Bool.and_eq_true] at hfit'
   have hrel:=LK (Pq hfit'.1).1
   have hw:=(hrel.2.2.2 _ hp).2
   obtain ⟨j,hj,ej⟩:=List.mem_iff_getElem.1 (List.contains_iff_mem.1 hv')
   have hj' : j < (DD z a.2).length:=by unfold DD; rw [List.length_map]; exact hj
   have h1:=P2 hw hj'
   have e9 : (DD z a.2)[j]'hj' = atI z a.2[j]:=List.getElem_map (atI z)
   rw [e9,ej,Gb hk] at h1
   exact h1
  show ¬ (((List.length z : Int) != q.1) || !Lo z) = true
  rw [hav]
  have hz1 : ((List.length z : Int) != q.1) = false:=by rw [bne,hz.1]; simp
  simp [hz1]
 rw [hbad,cond_false,heq]
 cases Fi (q.1,sortB p) <;> rfl
end
end Go.Proofs.YtklcofndjkjldaaGreat
