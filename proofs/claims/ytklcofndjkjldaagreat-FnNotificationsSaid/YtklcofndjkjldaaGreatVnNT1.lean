/-
 New views: the reference and the program give the same. On the printed functions; conditions: lengths.
-/
import Derived.Test.YtklcofndjkjldaaGreatPjNT1
import Derived.Test.YtklcofndjkjldaaGreatVsNT1
namespace Go.Proofs.YtklcofndjkjldaaGreat
open Go.RowKit
set_option linter.unusedVariables false
set_option linter.unusedSimpArgs false
def ofR (r : Rln) : Cnt × Bool:=cond (Fi r) ((r.1,r.2,List.replicate r.2.length 1),true) ((0,[],[]),false)
theorem Ql {B : (List Int × Int -> Option (List Int)) -> List Int × Int -> Option (List Int)} {n : Nat} (hl : n <= lim) (h1 : ∀ k,k < n -> ∀ rec,B rec (List.replicate k 1,(k : Int)) = rec (List.replicate k 1 ++ [1],((k + 1 : Nat) : Int))) (h2 : ∀ rec y,B rec (y,(n : Int)) = some y) : Al B fz (([] : List Int),0) = some (List.replicate n 1):=by
 have:=Ed (body:=B) (out:=List.replicate n 1) (fun k => (List.replicate k 1,(k : Int))) n (fun k hk rec => by rw [h1 k hk,<- List.replicate_succ']) (fun rec => h2 rec _) fz (Ii hl)
 simpa using this
theorem bZ {r : Rln} (h : A9 r.2) : Ce r = some (ofR r):=by
 unfold Ce ofR
 rw [MO h,AE]
 cases Fi r with
 | false => rfl
 | true =>
  rw [Bool.not_true,cond_false,OT h,AE,Ql (B:=Bz r) (n:=r.2.length) h.1 (fun k hk rec => by
   simp only [Bz]
   rw [AF hk,cond_true,Ak (by rw [List.length_replicate,List.length_singleton]; have:=h.1; omega),AO hk (At h.1)]) (fun rec y => by simp only [Bz]; rw [Az,cond_false]),AE]; rfl
theorem dZ {r : Rln} (h : A9 r.2) : Cb r = some (ofR r):=by
 unfold Cb ofR
 rw [MK h,AE]
 cases Fi r with
 | false => rfl
 | true =>
  rw [Bool.not_true,cond_false,Mk h,AE,Ql (B:=Bw r) (n:=r.2.length) h.1 (fun k hk rec => by
   simp only [Bw]
   rw [AF hk,cond_true,Ak (by rw [List.length_replicate,List.length_singleton]; have:=h.1; omega),AO hk (At h.1)]) (fun rec y => by simp only [Bw]; rw [Az,cond_false]),AE]; rfl
theorem Ki : GL ((0,[],[]) : Cnt):=⟨⟨Nat.zero_le _,fun r hr => by cases hr⟩,Nat.zero_le _⟩
theorem Y1 {c : Cnt} {cols : List Int} : GL (pjC c cols).1:=by
 unfold pjC
 cases hc : GK c with
 | false => exact Ki
 | true =>
  cases hf : Lq c.1 cols with
  | false => exact Ki
  | true =>
   have hok:=SA hc (O5 hc hf).1
   cases GK (KE (cols.length : Int) (I8 c cols)) with
   | false => exact Ki
   | true => exact N3 hok
theorem Y0 {c : Cnt} {cols : List Int} (h : (pjC c cols).2 = true) : GK (pjC c cols).1 = true:=by
 unfold pjC at h ⊢
 cases hb : (GK c && (Lq c.1 cols && GK (KE (cols.length : Int) (I8 c cols)))) with
 | false => rw [hb] at h; cases h
 | true =>
  simp only [Bool.and_eq_true] at hb
  exact hb.2.2
section
variable {d : List Tbl} {q : Qry}
theorem N9 (h : Iu d) (hs : smQ q) : ∃ x : Cnt × Bool,C8 d q = some x ∧ Fj d q = some (cond x.2 ((q,x.1),true) (((0,[],[]),(0,[],[])),false)) ∧ GL x.1 ∧ (x.2 = true -> GK x.1 = true ∧ Oc q = true) ∧ (x.2 = false -> x.1 = (0,[],[])):=by
 obtain ⟨h1,h2⟩:=RP h hs
 unfold C8 Fj
 rw [OU h hs]
 cases hq : J7 d q with
 | false =>
  obtain ⟨e1,e2⟩:=h1 hq
  exact ⟨((0,[],[]),false),by rw [e1,AE,AE]; rfl,by rw [e2,AE]; rfl,Ki,fun h => (by cases h),fun _ => rfl⟩
 | true =>
  obtain ⟨g1,g2,g3⟩:=HT hq
  obtain ⟨q1,q2,-,q4⟩:=Hv g1
  obtain ⟨R,r1,r2,r3,e1,e2⟩:=h2 hq
  cases hr : Fi (q.1,R) with
  | false =>
   rw [hr] at e1 e2
   refine ⟨((0,[],[]),false),?_,?_,Ki,fun h => (by cases h),fun _ => rfl⟩
   ·rw [e1,AE,AE,cond_false,Bool.not_true,cond_false,show (((0 : Int),([] : List (List Int))).1 != q.1) = true by rw [bne_iff_ne]; show (0 : Int) ≠ q.1; omega]; rfl
   ·rw [e2,AE]; rfl
  | true =>
   rw [hr] at e1 e2
   have hsm : A9 (q.1,R).2:=F1 hr
   have hc : GL (ofR (q.1,R)).1:=by
    unfold ofR
    rw [hr]
    exact ⟨hsm,by show (List.replicate R.length (1 : Int)).length <= lim; rw [List.length_replicate]; exact hsm.1⟩
   refine ⟨pjC (ofR (q.1,R)).1 q.2.2,?_,?_,Y1,fun h => ⟨Y0 h,g1⟩,fun h => ?_⟩
   ·rw [e1,AE,AE,cond_true,Bool.not_true,cond_false,show ((q.1,R).1 != q.1) = false by simp,cond_false,bZ hsm,AE,XF hc hs.2.2,AE]
   ·rw [e2,AE,cond_true,Bool.not_true,cond_false,dZ hsm,AE,aw hc hs.2.2,AE]
    cases hb : (pjC (ofR (q.1,R)).1 q.2.2).2 with
    | false => rfl
    | true => rw [Bool.not_true,cond_false,Rf hs,AE]; rfl
   ·unfold pjC at h ⊢
    cases hb : (GK (ofR (q.1,R)).1 && (Lq (ofR (q.1,R)).1.1 q.2.2 && GK (KE (q.2.2.length : Int) (I8 (ofR (q.1,R)).1 q.2.2)))) with
    | false => rfl
    | true => rw [hb] at h; cases h
theorem Tv {v : Vw} (h : Iu d) (hs : smQ v.1) : ∃ b,A6 d v = some b ∧ BC d v = some b:=by
 obtain ⟨x,e1,e2,x1,-,-⟩:=N9 h hs
 unfold A6 BC
 rw [e1,e2,AE,AE]
 cases hx : x.2 with
 | false => exact ⟨false,rfl,rfl⟩
 | true =>
  refine ⟨HO x.1 v.2,?_,?_⟩
  ·rw [cond_true,Ko x1,AE]; rfl
  ·rw [cond_true]; simp only []; rw [cond_true,Re x1,AE]; rfl
end
theorem OS {a b : List (List Int)} : LL a b = true ↔ a = b:=by
 unfold LL Oo
 rw [Bool.and_eq_true,beq_iff_eq,Bool.not_eq_true']
 constructor
 ·rintro ⟨h1,h2⟩
  refine List.ext_getElem (by omega) fun i hi hi' => ?_
  have:=GX h2 hi
  rw [AN hi'] at this
  simpa using this
 ·rintro rfl
  refine ⟨rfl,?_⟩
  unfold AU
  rw [List.any_eq_false]
  intro i hi
  have hi:=List.mem_range.1 hi
  rw [AN hi]
  show ¬ (!atB a i fun y => a[i] == y) = true
  rw [AN hi]; simp
theorem Gd {a b : Cnt} : HO a b = true ↔ a = b:=by
 unfold HO
 rw [Bool.and_eq_true,Bool.and_eq_true,beq_iff_eq,beq_iff_eq,OS]
 constructor
 ·rintro ⟨h1,h2,h3⟩; exact Prod.ext h1 (Prod.ext h2 h3)
 ·rintro rfl; exact ⟨rfl,rfl,rfl⟩
theorem SX (a b : Cnt) : HO a b = HO b a:=by
 rw [Bool.eq_iff_iff,Gd,Gd]
 exact ⟨Eq.symm,Eq.symm⟩
def N5 (n : Ntf) : Prop:=Iu n.1 ∧ (n.2.1.length <= lim ∧ ∀ v ∈ n.2.1,smQ v.1 ∧ GL v.2) ∧ n.2.2.length <= lim ∧ ∀ c ∈ n.2.2,GL c
theorem Pv {n : Ntf} (h : N5 n) : ∃ b,A3 n = some b ∧ Be n = some b ∧ (b = true -> dbB n.1 = true ∧ n.2.1.length <= 4 ∧ n.2.2.length = n.2.1.length):=by
 obtain ⟨h1,⟨h2,h3⟩,h4,h5⟩:=h
 unfold A3 Be
 rw [XC h1,al h1,AE,AE]
 cases hd : dbB n.1 with
 | false => exact ⟨false,rfl,rfl,fun h => by cases h⟩
 | true =>
  simp only [Bool.not_true,cond_false]
  by_cases hl : n.2.2.length = n.2.1.length
  ·rw [show ((List.length n.2.1 : Int) != (List.length n.2.2 : Int)) = false by rw [bne_eq_false_iff_eq]; omega,show ((List.length n.2.2 : Int) != (List.length n.2.1 : Int)) = false by rw [bne_eq_false_iff_eq]; omega]
   simp only [cond_false]
   rcases Nat.lt_or_ge 4 n.2.1.length with h4' | h4'
   ·exact ⟨false,by rw [decide_eq_true (by omega)]; rfl,by rw [decide_eq_true (by omega)]; rfl,fun h => by cases h⟩
   ·rw [decide_eq_false (by omega)]
    simp only [cond_false]
    have hch : ∀ k (hk : k < n.2.1.length),∃ b,A6 n.1 n.2.1[k] = some b ∧ BC n.1 n.2.1[k] = some b:=fun k hk => Tv h1 (h3 _ (List.getElem_mem hk)).1
    let vb : Nat -> Bool:=fun k => ((n.2.1[k]?).bind fun v => A6 n.1 v).getD false
    have hvb : ∀ k (hk : k < n.2.1.length),A6 n.1 n.2.1[k] = some (vb k) ∧ BC n.1 n.2.1[k] = some (vb k):=fun k hk => by
     obtain ⟨b,e1,e2⟩:=hch k hk
     have : vb k = b:=by show ((n.2.1[k]?).bind fun v => A6 n.1 v).getD false = b; rw [List.getElem?_eq_getElem hk]; show (A6 n.1 n.2.1[k]).getD false = b; rw [e1]; rfl
     rw [this]; exact ⟨e1,e2⟩
    refine ⟨!(List.range n.2.1.length).any fun k => !vb k || !atB n.2.1 k fun v => atB n.2.2 k fun c => HO v.2 c,?_,?_,fun _ => ⟨(by first | rfl | exact trivial | exact hd),h4',hl⟩⟩
    ·rw [Bm (fun k => !vb k || !atB n.2.1 k fun v => atB n.2.2 k fun c => HO v.2 c) h2 (fun k hk rec => by
      have hk' : k < n.2.2.length:=by omega
      unfold BJ
      rw [AF hk,cond_true,Aj hk,AE,(hvb k hk).1,AE,Aj hk',AE,AE,AO hk (At h2),AN hk,AN hk',Ko (h3 _ (List.getElem_mem hk)).2,AE]
      cases vb k <;> cases HO n.2.1[k].2 n.2.2[k] <;> rfl) (fun rec => by unfold BJ; rw [Az]; rfl)]
     cases (List.range n.2.1.length).any fun k => !vb k || !atB n.2.1 k fun v => atB n.2.2 k fun c => HO v.2 c <;> rfl
    ·rw [Bm (fun k => !vb k || !atB n.2.1 k fun v => atB n.2.2 k fun c => HO v.2 c) h2 (fun k hk rec => by
      have hk' : k < n.2.2.length:=by omega
      unfold Dv
      rw [AF hk,cond_true,Aj hk,AE,(hvb k hk).2,AE,Aj hk',AE,AO hk (At h2),AN hk,AN hk',Re (h5 _ (List.getElem_mem hk')),AE,SX]
      cases vb k <;> cases HO n.2.1[k].2 n.2.2[k] <;> rfl) (fun rec => by unfold Dv; rw [Az]; rfl)]
     cases (List.range n.2.1.length).any fun k => !vb k || !atB n.2.1 k fun v => atB n.2.2 k fun c => HO v.2 c <;> rfl
  ·rw [show ((List.length n.2.1 : Int) != (List.length n.2.2 : Int)) = true by rw [bne_iff_ne]; omega,show ((List.length n.2.2 : Int) != (List.length n.2.1 : Int)) = true by rw [bne_iff_ne]; omega]
   refine ⟨false,rfl,?_,fun h => by cases h⟩
   cases decide (4 < (List.length n.2.1 : Int)) <;> rfl
end Go.Proofs.YtklcofndjkjldaaGreat
