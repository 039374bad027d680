/-
 New views: the reference and the program give the same. On the printed functions; conditions: lengths.
-/
import Derived.Test.YtpcbnmcfplioeaaGreatPjNC1
import Derived.Test.YtpcbnmcfplioeaaGreatVsNC1
namespace Go.Proofs.YtpcbnmcfplioeaaGreat
open Go.RowKit
set_option linter.unusedVariables false
set_option linter.unusedSimpArgs false
def ofR (r : Rln) : Cnt × Bool:=cond (FZ r) ((r.1,r.2,List.replicate r.2.length 1),true) ((0,[],[]),false)
theorem Tp {B : (List Int × Int -> Option (List Int)) -> List Int × Int -> Option (List Int)} {n : Nat} (hl : n <= lim) (h1 : ∀ k,k < n -> ∀ rec,B rec (List.replicate k 1,(k : Int)) = rec (List.replicate k 1 ++ [1],((k + 1 : Nat) : Int))) (h2 : ∀ rec y,B rec (y,(n : Int)) = some y) : Ao B fz (([] : List Int),0) = some (List.replicate n 1):=by
 have:=DN (body:=B) (out:=List.replicate n 1) (fun k => (List.replicate k 1,(k : Int))) n (fun k hk rec => by rw [h1 k hk,<- List.replicate_succ']) (fun rec => h2 rec _) fz (HP hl)
 simpa using this
theorem oz {r : Rln} (h : Bl r.2) : B9 r = some (ofR r):=by
 unfold B9 ofR
 rw [QY h,AR]
 cases FZ r with
 | false => rfl
 | true =>
  rw [Bool.not_true,cond_false,TD h,AR,Tp (B:=BF r) (n:=r.2.length) h.1 (fun k hk rec => by
   simp only [BF]
   rw [AL hk,cond_true,Ap (by rw [List.length_replicate,List.length_singleton]; have:=h.1; omega),AS hk (AA h.1)]) (fun rec y => by simp only [BF]; rw [AG,cond_false]),AR]; rfl
theorem mz {r : Rln} (h : Bl r.2) : B6 r = some (ofR r):=by
 unfold B6 ofR
 rw [OQ h,AR]
 cases FZ r with
 | false => rfl
 | true =>
  rw [Bool.not_true,cond_false,P5 h,AR,Tp (B:=BC r) (n:=r.2.length) h.1 (fun k hk rec => by
   simp only [BC]
   rw [AL hk,cond_true,Ap (by rw [List.length_replicate,List.length_singleton]; have:=h.1; omega),AS hk (AA h.1)]) (fun rec y => by simp only [BC]; rw [AG,cond_false]),AR]; rfl
theorem LV : H1 ((0,[],[]) : Cnt):=⟨⟨Nat.zero_le _,fun r hr => by cases hr⟩,Nat.zero_le _⟩
theorem el {c : Cnt} {cols : List Int} : H1 (pjC c cols).1:=by
 unfold pjC
 cases hc : H2 c with
 | false => exact LV
 | true =>
  cases hf : PO c.1 cols with
  | false => exact LV
  | true =>
   have hok:=Yr hc (T9 hc hf).1
   cases H2 (Qz (cols.length : Int) (NU c cols)) with
   | false => exact LV
   | true => exact Qr hok
theorem ei {c : Cnt} {cols : List Int} (h : (pjC c cols).2 = true) : H2 (pjC c cols).1 = true:=by
 unfold pjC at h ⊢
 cases hb : (H2 c && (PO c.1 cols && H2 (Qz (cols.length : Int) (NU c cols)))) with
 | false => rw [hb] at h; cases h
 | true =>
  simp only [Bool.and_eq_true] at hb
  exact hb.2.2
section
variable {d : List Tbl} {q : Qry}
theorem TM (h : KU d) (hs : smQ q) : ∃ x : Cnt × Bool,HV d q = some x ∧ Fq d q = some (cond x.2 ((q,x.1),true) (((0,[],[]),(0,[],[])),false)) ∧ H1 x.1 ∧ (x.2 = true -> H2 x.1 = true ∧ UH q = true) ∧ (x.2 = false -> x.1 = (0,[],[])):=by
 obtain ⟨h1,h2⟩:=Zk h hs
 unfold HV Fq
 rw [ce h hs]
 cases hq : Mp d q with
 | false =>
  obtain ⟨e1,e2⟩:=h1 hq
  exact ⟨((0,[],[]),false),by rw [e1,AR,AR]; rfl,by rw [e2,AR]; rfl,LV,fun h => (by cases h),fun _ => rfl⟩
 | true =>
  obtain ⟨g1,g2,g3⟩:=Jp hq
  obtain ⟨q1,q2,-,q4⟩:=JR g1
  obtain ⟨R,r1,r2,r3,e1,e2⟩:=h2 hq
  cases hr : FZ (q.1,R) with
  | false =>
   rw [hr] at e1 e2
   refine ⟨((0,[],[]),false),?_,?_,LV,fun h => (by cases h),fun _ => rfl⟩
   ·rw [e1,AR,AR,cond_false,Bool.not_true,cond_false,show (((0 : Int),([] : List (List Int))).1 != q.1) = true by rw [bne_iff_ne]; show (0 : Int) ≠ q.1; omega]; rfl
   ·rw [e2,AR]; rfl
  | true =>
   rw [hr] at e1 e2
   have hsm : Bl (q.1,R).2:=G3 hr
   have hc : H1 (ofR (q.1,R)).1:=by
    unfold ofR
    rw [hr]
    exact ⟨hsm,by show (List.replicate R.length (1 : Int)).length <= lim; rw [List.length_replicate]; exact hsm.1⟩
   refine ⟨pjC (ofR (q.1,R)).1 q.2.2,?_,?_,el,fun h => ⟨ei h,g1⟩,fun h => ?_⟩
   ·rw [e1,AR,AR,cond_true,Bool.not_true,cond_false,show ((q.1,R).1 != q.1) = false by simp,cond_false,oz hsm,AR,kD hc hs.2.2,AR]
   ·rw [e2,AR,cond_true,Bool.not_true,cond_false,mz hsm,AR,gP hc hs.2.2,AR]
    cases hb : (pjC (ofR (q.1,R)).1 q.2.2).2 with
    | false => rfl
    | true => rw [Bool.not_true,cond_false,Uq hs,AR]; rfl
   ·unfold pjC at h ⊢
    cases hb : (H2 (ofR (q.1,R)).1 && (PO (ofR (q.1,R)).1.1 q.2.2 && H2 (Qz (q.2.2.length : Int) (NU (ofR (q.1,R)).1 q.2.2)))) with
    | false => rfl
    | true => rw [hb] at h; cases h
theorem WD {v : Vw} (h : KU d) (hs : smQ v.1) : ∃ b,A4 d v = some b ∧ BH d v = some b:=by
 obtain ⟨x,e1,e2,x1,-,-⟩:=TM h hs
 unfold A4 BH
 rw [e1,e2,AR,AR]
 cases hx : x.2 with
 | false => exact ⟨false,rfl,rfl⟩
 | true =>
  refine ⟨Ko x.1 v.2,?_,?_⟩
  ·rw [cond_true,Sm x1,AR]; rfl
  ·rw [cond_true]; simp only []; rw [cond_true,Up x1,AR]; rfl
end
theorem WB {a b : List (List Int)} : NG a b = true ↔ a = b:=by
 unfold NG aD
 rw [Bool.and_eq_true,beq_iff_eq,Bool.not_eq_true']
 constructor
 ·rintro ⟨h1,h2⟩
  refine List.ext_getElem (by omega) fun i hi hi' => ?_
  have:=He h2 hi
  rw [AY hi'] at this
  simpa using this
 ·rintro rfl
  refine ⟨rfl,?_⟩
  unfold A1
  rw [List.any_eq_false]
  intro i hi
  have hi:=List.mem_range.1 hi
  rw [AY hi]
  show ¬ (!atB a i fun y => a[i] == y) = true
  rw [AY hi]; simp
theorem KC {a b : Cnt} : Ko a b = true ↔ a = b:=by
 unfold Ko
 rw [Bool.and_eq_true,Bool.and_eq_true,beq_iff_eq,beq_iff_eq,WB]
 constructor
 ·rintro ⟨h1,h2,h3⟩; exact Prod.ext h1 (Prod.ext h2 h3)
 ·rintro rfl; exact ⟨rfl,rfl,rfl⟩
theorem Wa (a b : Cnt) : Ko a b = Ko b a:=by
 rw [Bool.eq_iff_iff,KC,KC]
 exact ⟨Eq.symm,Eq.symm⟩
def TH (n : Ntf) : Prop:=KU n.1 ∧ (n.2.1.length <= lim ∧ ∀ v ∈ n.2.1,smQ v.1 ∧ H1 v.2) ∧ n.2.2.length <= lim ∧ ∀ c ∈ n.2.2,H1 c
theorem ag {n : Ntf} (h : TH n) : ∃ b,BP n = some b ∧ Cr n = some b ∧ (b = true -> dbB n.1 = true ∧ n.2.1.length <= 4 ∧ n.2.2.length = n.2.1.length):=by
 obtain ⟨h1,⟨h2,h3⟩,h4,h5⟩:=h
 unfold BP Cr
 rw [eG h1,gI h1,AR,AR]
 cases hd : dbB n.1 with
 | false => exact ⟨false,rfl,rfl,fun h => by cases h⟩
 | true =>
  simp only [Bool.not_true,cond_false]
  by_cases hl : n.2.2.length = n.2.1.length
  ·rw [show ((List.length n.2.1 : Int) != (List.length n.2.2 : Int)) = false by rw [bne_eq_false_iff_eq]; omega,show ((List.length n.2.2 : Int) != (List.length n.2.1 : Int)) = false by rw [bne_eq_false_iff_eq]; omega]
   simp only [cond_false]
   rcases Nat.lt_or_ge 4 n.2.1.length with h4' | h4'
   ·exact ⟨false,by rw [decide_eq_true (by omega)]; rfl,by rw [decide_eq_true (by omega)]; rfl,fun h => by cases h⟩
   ·rw [decide_eq_false (by omega)]
    simp only [cond_false]
    have hch : ∀ k (hk : k < n.2.1.length),∃ b,A4 n.1 n.2.1[k] = some b ∧ BH n.1 n.2.1[k] = some b:=fun k hk => WD h1 (h3 _ (List.getElem_mem hk)).1
    let vb : Nat -> Bool:=fun k => ((n.2.1[k]?).bind fun v => A4 n.1 v).getD false
    have hvb : ∀ k (hk : k < n.2.1.length),A4 n.1 n.2.1[k] = some (vb k) ∧ BH n.1 n.2.1[k] = some (vb k):=fun k hk => by
     obtain ⟨b,e1,e2⟩:=hch k hk
     have : vb k = b:=by show ((n.2.1[k]?).bind fun v => A4 n.1 v).getD false = b; rw [List.getElem?_eq_getElem hk]; show (A4 n.1 n.2.1[k]).getD false = b; rw [e1]; rfl
     rw [this]; exact ⟨e1,e2⟩
    refine ⟨!(List.range n.2.1.length).any fun k => !vb k || !atB n.2.1 k fun v => atB n.2.2 k fun c => Ko v.2 c,?_,?_,fun _ => ⟨(by first | rfl | exact trivial | exact hd),h4',hl⟩⟩
    ·rw [BS (fun k => !vb k || !atB n.2.1 k fun v => atB n.2.2 k fun c => Ko v.2 c) h2 (fun k hk rec => by
      have hk' : k < n.2.2.length:=by omega
      unfold BJ
      rw [AL hk,cond_true,Am hk,AR,(hvb k hk).1,AR,Am hk',AR,AR,AS hk (AA h2),AY hk,AY hk',Sm (h3 _ (List.getElem_mem hk)).2,AR]
      cases vb k <;> cases Ko n.2.1[k].2 n.2.2[k] <;> rfl) (fun rec => by unfold BJ; rw [AG]; rfl)]
     cases (List.range n.2.1.length).any fun k => !vb k || !atB n.2.1 k fun v => atB n.2.2 k fun c => Ko v.2 c <;> rfl
    ·rw [BS (fun k => !vb k || !atB n.2.1 k fun v => atB n.2.2 k fun c => Ko v.2 c) h2 (fun k hk rec => by
      have hk' : k < n.2.2.length:=by omega
      unfold DI
      rw [AL hk,cond_true,Am hk,AR,(hvb k hk).2,AR,Am hk',AR,AS hk (AA h2),AY hk,AY hk',Up (h5 _ (List.getElem_mem hk')),AR,Wa]
      cases vb k <;> cases Ko n.2.1[k].2 n.2.2[k] <;> rfl) (fun rec => by unfold DI; rw [AG]; rfl)]
     cases (List.range n.2.1.length).any fun k => !vb k || !atB n.2.1 k fun v => atB n.2.2 k fun c => Ko v.2 c <;> rfl
  ·rw [show ((List.length n.2.1 : Int) != (List.length n.2.2 : Int)) = true by rw [bne_iff_ne]; omega,show ((List.length n.2.2 : Int) != (List.length n.2.1 : Int)) = true by rw [bne_iff_ne]; omega]
   refine ⟨false,rfl,?_,fun h => by cases h⟩
   cases decide (4 < (List.length n.2.1 : Int)) <;> rfl
end Go.Proofs.YtpcbnmcfplioeaaGreat
