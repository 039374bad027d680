/-
 Changes of counted relations and of views: the reference. On the printed functions; conditions: lengths, numbers in range.
-/
import Derived.Test.YtklcofndjkjldaaGreatAwNT1
namespace Go.Proofs.YtklcofndjkjldaaGreat
open Go.RowKit
set_option linter.unusedVariables false
set_option linter.unusedSimpArgs false
def prC (c : Cnt) : List Pr:=c.2.1.zip c.2.2
def Ga (a b : Cnt) : List Pr:=prC a ++ prC b
def Lk (a b : Cnt) : Cnt × Bool:=cond (GK a && (GK b && ((a.1 == b.1) && (Fi (a.1,keysL (Ga a b)) && GK (KE a.1 (Ga a b)))))) (KE a.1 (Ga a b),true) ((0,[],[]),false)
theorem OQ {c : Cnt} (h : GK c = true) : (prC c).length = c.2.1.length ∧ (prC c).map (·.1) = c.2.1 ∧ ∀ p ∈ prC c,p.1 ∈ c.2.1 ∧ p.2 ∈ c.2.2:=by
 have f2:=(B8 h).2.1
 refine ⟨by unfold prC; rw [List.length_zip]; omega,by unfold prC; rw [<- List.unzip_fst,List.unzip_zip f2],fun p hp => ?_⟩
 obtain ⟨a,b⟩:=p
 exact List.of_mem_zip hp
theorem TB {a b : Cnt} (ha : GK a = true) (hb : GK b = true) : OkL (Ga a b):=by
 obtain ⟨-,a2,a3,a4,-,a6,a7⟩:=B8 ha
 obtain ⟨-,b2,b3,b4,-,b6,b7⟩:=B8 hb
 obtain ⟨p1,p2,p3⟩:=OQ ha
 obtain ⟨q1,q2,q3⟩:=OQ hb
 refine ⟨by unfold Ga; rw [List.length_append]; omega,fun p hp => ?_⟩
 rcases List.mem_append.1 hp with hp | hp
 ·obtain ⟨h1,h2⟩:=p3 p hp
  exact ⟨by have:=(a4 _ h1).1; unfold lim; omega,a7 _ h2⟩
 ·obtain ⟨h1,h2⟩:=q3 p hp
  exact ⟨by have:=(b4 _ h1).1; unfold lim; omega,b7 _ h2⟩
theorem RN {a b : Cnt} (ha : GK a = true) (hb : GK b = true) : keysL (Ga a b) = sortB (a.2.1 ++ b.2.1):=by
 unfold keysL Ga
 rw [List.map_append,(OQ ha).2.1,(OQ hb).2.1]
theorem WE {a b : Cnt} (h1 : GL a) (h2 : GL b) : Cl a b = some (Lk a b):=by
 unfold Cl Lk
 rw [WF h1,AE]
 cases ha : GK a with
 | false => rfl
 | true =>
  rw [Bool.not_true,cond_false,WF h2,AE]
  cases hb : GK b with
  | false => rfl
  | true =>
   obtain ⟨-,a2,a3,a4,a5,a6,a7⟩:=B8 ha
   obtain ⟨-,b2,b3,b4,-,b6,b7⟩:=B8 hb
   rw [Bool.not_true,cond_false]
   cases he : a.1 == b.1 with
   | false => rw [bne,he]; rfl
   | true =>
    have hab : a.1 = b.1:=by simpa using he
    rw [bne,he,Bool.not_true,cond_false]
    simp only [List.nil_append]
    rw [Ak (by rw [List.length_nil]; unfold lim; omega),Ak (by unfold lim; omega),Ak (by rw [List.length_nil]; unfold lim; omega),Ak (by unfold lim; omega)]
    have hz : (a.2.1 ++ b.2.1).zip (a.2.2 ++ b.2.2) = Ga a b:=by unfold Ga prC; exact List.zip_append a2
    have hok:=TB ha hb
    have hrows : ∀ r ∈ a.2.1 ++ b.2.1,(r.length : Int) = a.1 ∧ Lo r = true:=fun r hr => by
     rcases List.mem_append.1 hr with hr | hr
     ·exact a4 r hr
     ·rw [hab]; exact b4 r hr
    have hbad : AU (a.2.1 ++ b.2.1) (fun _ x => Kk a.1 x) = false:=GM fun i hi => by
     have h1:=hrows _ (List.getElem_mem hi)
     unfold Kk
     rw [h1.2,h1.1]; simp
    have hk:=RN ha hb
    cases hr : Fi (a.1,keysL (Ga a b)) with
    | true =>
     have hn : nrB a.1 (a.2.1 ++ b.2.1) = ((a.1,sortB (a.2.1 ++ b.2.1)),true):=by
      unfold nrB
      rw [hbad,<- hk,hr]; rfl
     rw [ck hn (by rw [List.length_append,List.length_append]; omega) (by rw [hz]; exact hok),AE,hz]
     cases GK (KE a.1 (Ga a b)) <;> rfl
    | false =>
     have hn : nrB a.1 (a.2.1 ++ b.2.1) = ((0,[]),false):=by
      unfold nrB
      rw [hbad,<- hk,hr]; rfl
     have hsm : A9 (a.2.1 ++ b.2.1):=⟨by rw [List.length_append]; unfold lim; omega,fun r hr => by have:=(hrows r hr).1; unfold lim; omega⟩
     unfold Hb
     rw [ZD hsm,AE,hn]
     rfl
theorem RO {a b : Cnt} : GL (Lk a b).1:=by
 unfold Lk
 cases ha : GK a with
 | false => exact Ki
 | true =>
  cases hb : GK b with
  | false => exact Ki
  | true =>
   cases a.1 == b.1 with
   | false => exact Ki
   | true =>
    cases Fi (a.1,keysL (Ga a b)) with
    | false => exact Ki
    | true =>
     cases GK (KE a.1 (Ga a b)) with
     | false => exact Ki
     | true => exact N3 (TB ha hb)
theorem Nj {a b : Cnt} (h : (Lk a b).2 = true) : GK a = true ∧ GK b = true ∧ a.1 = b.1 ∧ GK (Lk a b).1 = true ∧ (Lk a b).1 = KE a.1 (Ga a b):=by
 unfold Lk at h ⊢
 cases hb : (GK a && (GK b && ((a.1 == b.1) && (Fi (a.1,keysL (Ga a b)) && GK (KE a.1 (Ga a b)))))) with
 | false => rw [hb] at h; cases h
 | true =>
  simp only [Bool.and_eq_true,beq_iff_eq] at hb
  exact ⟨hb.1,hb.2.1,hb.2.2.1,hb.2.2.2.2,rfl⟩
def zOf (d : List Tbl) (q : Qry) : Cnt × Bool:=(C8 d q).getD ((0,[],[]),false)
section
variable {d : List Tbl} {q : Qry} {x : Dlt}
theorem Zx (h : Iu d) (hs : smQ q) : C8 d q = some (zOf d q) ∧ Fj d q = some (cond (zOf d q).2 ((q,(zOf d q).1),true) (((0,[],[]),(0,[],[])),false)) ∧ GL (zOf d q).1 ∧ ((zOf d q).2 = true -> GK (zOf d q).1 = true ∧ Oc q = true) ∧ ((zOf d q).2 = false -> (zOf d q).1 = (0,[],[])):=by
 obtain ⟨y,e1,e2,y1,y2,y3⟩:=N9 h hs
 have : zOf d q = y:=by unfold zOf; rw [e1]; rfl
 rw [this]
 exact ⟨e1,e2,y1,y2,y3⟩
def Qj (d : List Tbl) (v : Vw) : Bool:=(zOf d v.1).2 && HO (zOf d v.1).1 v.2
theorem XE {v : Vw} (h : Iu d) (hs : smQ v.1) : A6 d v = some (Qj d v):=by
 obtain ⟨e1,-,y1,-,-⟩:=Zx h hs
 unfold A6 Qj
 rw [e1,AE]
 cases (zOf d v.1).2 with
 | false => rfl
 | true => rw [cond_true,Ko y1,AE]; rfl
theorem av {v : Vw} (h : Iu d) (hs : smQ v.1) : BC d v = some (Qj d v):=by
 obtain ⟨-,e2,y1,-,-⟩:=Zx h hs
 unfold BC Qj
 rw [e2,AE]
 cases (zOf d v.1).2 with
 | false => rfl
 | true => rw [cond_true]; simp only []; rw [cond_true,Re y1,AE]; rfl
def ntB (n : Ntf) : Bool:=dbB n.1 && (((n.2.1.length : Int) == (n.2.2.length : Int)) && (!decide (4 < (n.2.1.length : Int)) && !AU n.2.1 fun k v => !Qj n.1 v || !atB n.2.2 k fun c => HO v.2 c))
theorem Vb {n : Ntf} (h : N5 n) : A3 n = some (ntB n):=by
 obtain ⟨h1,⟨h2,h3⟩,h4,h5⟩:=h
 unfold A3 ntB AU
 rw [XC h1,AE]
 cases dbB n.1 with
 | false => rfl
 | true =>
  rw [Bool.not_true,cond_false,Bool.true_and,bne]
  cases hl : (n.2.1.length : Int) == (n.2.2.length : Int) with
  | false => rfl
  | true =>
   have hl' : n.2.1.length = n.2.2.length:=Kh hl
   rw [Bool.not_true,cond_false,Bool.true_and]
   cases decide (4 < (n.2.1.length : Int)) with
   | true => rfl
   | false =>
    rw [cond_false,Bm (fun k => atB n.2.1 k fun v => !Qj n.1 v || !atB n.2.2 k fun c => HO v.2 c) h2 (fun k hk rec => by
     have hk' : k < n.2.2.length:=by omega
     have hv:=h3 _ (List.getElem_mem hk)
     unfold BJ
     rw [AF hk,cond_true,Aj hk,AE,XE h1 hv.1,AE,Aj hk',AE,AE,AO hk (At h2),AN hk,AN hk',Ko hv.2,AE]
     cases Qj n.1 n.2.1[k] <;> cases HO n.2.1[k].2 n.2.2[k] <;> rfl) (fun rec => by unfold BJ; rw [Az]; rfl)]
    cases (List.range n.2.1.length).any fun k => atB n.2.1 k fun v => !Qj n.1 v || !atB n.2.2 k fun c => HO v.2 c <;> rfl
theorem LG {n : Ntf} (h : ntB n = true) : dbB n.1 = true ∧ n.2.1.length <= 4 ∧ n.2.2 = n.2.1.map (·.2) ∧ ∀ v ∈ n.2.1,zOf n.1 v.1 = (v.2,true):=by
 unfold ntB at h
 simp only [Bool.and_eq_true,Bool.not_eq_true',decide_eq_false_iff_not] at h
 obtain ⟨h1,h2,h3,h4⟩:=h
 have hl : n.2.1.length = n.2.2.length:=Kh h2
 have hk : ∀ k (hk : k < n.2.1.length),zOf n.1 n.2.1[k].1 = (n.2.1[k].2,true) ∧ n.2.1[k].2 = n.2.2[k]'(by omega):=fun k hk => by
  have:=GX h4 hk
  rw [AN (by omega)] at this
  simp only [Bool.or_eq_false_iff,Bool.not_eq_false'] at this
  obtain ⟨g1,g2⟩:=this
  unfold Qj at g1
  rw [Bool.and_eq_true,Gd] at g1
  exact ⟨Prod.ext g1.2 g1.1,Gd.1 g2⟩
 refine ⟨h1,by omega,List.ext_getElem (by rw [List.length_map]; omega) fun i h5 h6 => ?_,fun v hv => ?_⟩
 ·rw [List.getElem_map]; exact ((hk i (by omega)).2).symm
 ·obtain ⟨k,hk',rfl⟩:=List.mem_iff_getElem.1 hv
  exact (hk k hk').1
theorem gB {n : Ntf} (h1 : dbB n.1 = true) (h2 : n.2.1.length <= 4) (h3 : n.2.2 = n.2.1.map (·.2)) (h4 : ∀ v ∈ n.2.1,zOf n.1 v.1 = (v.2,true)) : ntB n = true:=by
 have hl : n.2.2.length = n.2.1.length:=by rw [h3,List.length_map]
 unfold ntB
 simp only [Bool.and_eq_true,Bool.not_eq_true',decide_eq_false_iff_not,beq_iff_eq]
 refine ⟨h1,by omega,by omega,GM fun i hi => ?_⟩
 have hi' : i < n.2.2.length:=by omega
 rw [AN hi']
 have e : n.2.2[i] = n.2.1[i].2:=by simp only [h3,List.getElem_map]
 have:=h4 _ (List.getElem_mem hi)
 unfold Qj
 rw [this,e,Gd.2 rfl]; rfl
def vdR (d : List Tbl) (q : Qry) (x : Dlt) : Cnt × Bool:=cond ((En d x).2 && ((zOf d q).2 && (zOf (En d x).1 q).2)) (Lk (zOf (En d x).1 q).1 (negC (zOf d q).1)) ((0,[],[]),false)
theorem L7 (h : Iu d) (hd : d.length < lim) (hx : smD x) : Iu (En d x).1:=by
 unfold En
 simp only
 cases (Iy d x).2 with
 | false => exact h
 | true =>
  simp only [Bool.not_true,cond_false]
  cases hu : (unR (Of (BY d x.1).1 (Iy d x).1.2.2).1 (Iy d x).1.2.1).2 with
  | false => exact h
  | true => exact Zl h hd hx.1 Zu.1
theorem ij (h : Iu d) (hd : d.length < lim) (hx : smD x) (hq : smQ q) : FT d q x = some (vdR d q x):=by
 obtain ⟨z1,-,z2,-,-⟩:=Zx h hq
 obtain ⟨y1,-,y2,-,-⟩:=Zx (L7 h hd hx) hq
 unfold FT vdR
 rw [Za h hd hx,AE,z1,AE,y1,AE]
 cases (En d x).2 with
 | false => rfl
 | true =>
  rw [Bool.not_true,cond_false,Bool.true_and]
  cases (zOf d q).2 with
  | false => rfl
  | true =>
   rw [Bool.not_true,cond_false,Bool.true_and]
   cases (zOf (En d x).1 q).2 with
   | false => rfl
   | true => rw [Bool.not_true,cond_false,Rx z2,AE,WE y2 (NT z2),AE]; rfl
theorem Tw : GL (vdR d q x).1:=by
 unfold vdR
 cases ((En d x).2 && ((zOf d q).2 && (zOf (En d x).1 q).2)) with
 | false => exact Ki
 | true => exact RO
def avR (v : Vw) (d : List Tbl) (x : Dlt) : Vw × Bool:=cond ((vdR d v.1 x).2 && (Qj d v && (Lk v.2 (vdR d v.1 x).1).2)) ((v.1,(Lk v.2 (vdR d v.1 x).1).1),true) (((0,[],[]),(0,[],[])),false)
theorem gC {v : Vw} (h : Iu d) (hd : d.length < lim) (hx : smD x) (hv : smQ v.1 ∧ GL v.2) : FO v d x = some (avR v d x):=by
 unfold FO avR
 rw [ij h hd hx hv.1,AE]
 cases (vdR d v.1 x).2 with
 | false => rfl
 | true =>
  rw [Bool.not_true,cond_false,XE h hv.1,AE,Bool.true_and]
  cases Qj d v with
  | false => rfl
  | true =>
   rw [Bool.not_true,cond_false,WE hv.2 Tw,AE,Bool.true_and]
   cases (Lk v.2 (vdR d v.1 x).1).2 with
   | false => rfl
   | true => rw [Bool.not_true,cond_false,Rw hv.1,AE]; rfl
def Mu (d : List Tbl) (x : Dlt) (v : Vw) : Bool:=(vdR d v.1 x).2 && (Lk v.2 (vdR d v.1 x).1).2
def newC (d : List Tbl) (x : Dlt) (v : Vw) : Cnt:=(Lk v.2 (vdR d v.1 x).1).1
def ncR (n : Ntf) (x : Dlt) : Ntf × List Cnt × Bool:=cond (ntB n && ((En n.1 x).2 && n.2.1.all (Mu n.1 x))) (((En n.1 x).1,n.2.1.map fun v => (v.1,newC n.1 x v),n.2.1.map (newC n.1 x)),n.2.1.map fun v => (vdR n.1 v.1 x).1,true) (n,[],false)
theorem Y5 {α : Type} {f : α -> α} {l : List α} {k : Nat} (hk : k < l.length) : ((l.take k).map f ++ l.drop k).set k (f l[k]) = (l.take (k + 1)).map f ++ l.drop (k + 1):=by
 have hl : ((l.take k).map f).length = k:=by rw [List.length_map,List.length_take]; omega
 rw [List.set_append_right _ _ (by omega),hl,Nat.sub_self,List.drop_eq_getElem_cons hk,List.set_cons_zero,take_snoc hk,List.map_append,List.append_assoc]
 rfl
theorem Xw {α β : Type} {f g : α -> β} {l : List α} {k : Nat} (hk : k < l.length) : ((l.take k).map f ++ (l.drop k).map g).set k (f l[k]) = (l.take (k + 1)).map f ++ (l.drop (k + 1)).map g:=by
 have hl : ((l.take k).map f).length = k:=by rw [List.length_map,List.length_take]; omega
 rw [List.set_append_right _ _ (by omega),hl,Nat.sub_self,List.drop_eq_getElem_cons hk,List.map_cons,List.set_cons_zero,take_snoc hk,List.map_append,List.append_assoc]
 rfl
theorem R6 {α : Type} {A B : List α} {k : Nat} (hk : k < (A ++ B).length) : ∃ e,AK (A ++ B) (k : Int) = some e:=⟨_,Aj hk⟩
theorem ii {n : Ntf} (h : N5 n) (hI : ntI n) (hd : n.1.length < lim) (hx : smD x) : DE n x = some (ncR n x):=by
 unfold DE ncR
 rw [Rv h hI,AE,Za h.1 hd hx,AE,Vb h,AE]
 cases hn : ntB n with
 | false => rfl
 | true =>
  obtain ⟨f1,f2,f3,f4⟩:=LG hn
  rw [Bool.not_true,cond_false,Bool.true_and]
  cases happ : (En n.1 x).2 with
  | false => rfl
  | true =>
   rw [Bool.not_true,cond_false,Bool.true_and]
   have hdl : n.2.2.length = n.2.1.length:=by rw [f3,List.length_map]
   obtain ⟨o,e,ho⟩:=F0 (B:=BP n x) (fun s => ∃ k : Nat,k <= n.2.1.length ∧ s = ((n.2.1.take k).map (fun v => (vdR n.1 v.1 x).1),(n.2.1.take k).map (fun v => (v.1,newC n.1 x v)) ++ n.2.1.drop k,(n.2.1.take k).map (newC n.1 x) ++ (n.2.1.drop k).map (·.2),(k : Int)) ∧ (n.2.1.take k).all (Mu n.1 x) = true) (fun s => n.2.1.length - s.2.2.2.toNat)
    (fun o => o = cond (n.2.1.all (Mu n.1 x)) (.inl (n.2.1.map (fun v => (vdR n.1 v.1 x).1),n.2.1.map (fun v => (v.1,newC n.1 x v)),n.2.1.map (newC n.1 x))) (.inr (n,[],false))) (fun s hs => by
    obtain ⟨k,hk,rfl,hall⟩:=hs
    by_cases hlt : k < n.2.1.length
    ·have hv:=h.2.1.2 _ (List.getElem_mem hlt)
     have hk2 : k < n.2.2.length:=by omega
     have hdk : n.2.2[k] = n.2.1[k].2:=by simp only [f3,List.getElem_map]
     have hok : Qj n.1 n.2.1[k] = true:=by
      unfold Qj
      rw [f4 _ (List.getElem_mem hlt),Gd.2 rfl]; rfl
     have hW : IntKind.i64.wrap ((k : Int) + 1) = ((k + 1 : Nat) : Int):=AO hlt (At h.2.1.1)
     have hav : (avR n.2.1[k] n.1 x) = cond (Mu n.1 x n.2.1[k]) ((n.2.1[k].1,newC n.1 x n.2.1[k]),true) (((0,[],[]),(0,[],[])),false):=by
      unfold avR Mu newC
      rw [hok,Bool.true_and]
     have hB : ∀ rec y1 y2 y3,BP n x rec (y1,y2,y3,(k : Int)) = Br rec n y1 y2 y3 (k : Int) (vdR n.1 n.2.1[k].1 x) (avR n.2.1[k] n.1 x) (Lk n.2.1[k].2 (vdR n.1 n.2.1[k].1 x).1) (!Mu n.1 x n.2.1[k]):=fun rec y1 y2 y3 => by
      simp only [BP]
      rw [AF hlt,cond_true,Aj hlt,AE,ij h.1 hd hx hv.1,AE,AE,gC h.1 hd hx hv,AE,Aj hk2,AE,hdk,WE hv.2 Tw,AE,hav]
      unfold Mu
      cases (vdR n.1 n.2.1[k].1 x).2 with
      | false => rfl
      | true =>
       cases (Lk n.2.1[k].2 (vdR n.1 n.2.1[k].1 x).1).2 <;> rfl
     cases hc : Mu n.1 x n.2.1[k] with
     | false =>
      left
      refine ⟨_,rfl,fun rec => ?_⟩
      have hf : n.2.1.all (Mu n.1 x) = false:=by
       cases ha : n.2.1.all (Mu n.1 x) with
       | false => rfl
       | true => rw [List.all_eq_true.1 ha _ (List.getElem_mem hlt)] at hc; cases hc
      rw [hf,hB,hc]
      unfold Br
      rw [Bool.not_false,cond_true,Rv h hI,AE]; rfl
     | true =>
      right
      refine ⟨_,⟨k + 1,hlt,rfl,by rw [take_snoc hlt,List.all_append,hall,List.all_cons,hc]; rfl⟩,by simp only [Int.toNat_natCast]; omega,fun rec => ?_⟩
      have l1 : ((n.2.1.take k).map (fun v => (v.1,newC n.1 x v)) ++ n.2.1.drop k).length = n.2.1.length:=by rw [List.length_append,List.length_map,List.length_take,List.length_drop]; omega
      have l2 : ((n.2.1.take k).map (newC n.1 x) ++ (n.2.1.drop k).map (·.2)).length = n.2.1.length:=by rw [List.length_append,List.length_map,List.length_map,List.length_take,List.length_drop]; omega
      obtain ⟨a1,g1⟩:=R6 (A:=(n.2.1.take k).map (fun v => (v.1,newC n.1 x v))) (B:=n.2.1.drop k) (k:=k) (by rw [l1]; exact hlt)
      obtain ⟨a2,g2⟩:=R6 (A:=(n.2.1.take k).map (newC n.1 x)) (B:=(n.2.1.drop k).map (·.2)) (k:=k) (by rw [l2]; exact hlt)
      rw [hB,hc,hav,hc]
      unfold Br
      rw [Bool.not_true,cond_false,Ak (by rw [l1]; omega),g1,AE,Ak (by rw [l2]; omega),g2,AE,Ak (by rw [List.length_map,List.length_take,List.length_singleton]; unfold lim; omega),hW]
      unfold It
      rw [Int.toNat_natCast,take_snoc hlt,List.map_append]
      have p1:=Y5 (f:=fun v : Vw => (v.1,newC n.1 x v)) hlt
      have p2:=Xw (f:=newC n.1 x) (g:=fun v : Vw => v.2) hlt
      rw [take_snoc hlt] at p1 p2
      simp only [cond_true]
      rw [p1]
      have e2 : (Lk n.2.1[k].2 (vdR n.1 n.2.1[k].1 x).1).1 = newC n.1 x n.2.1[k]:=rfl
      rw [e2,p2]
      rfl
    ·have hkl : k = n.2.1.length:=by omega
     left
     refine ⟨_,rfl,fun rec => ?_⟩
     subst hkl
     rw [List.take_length] at hall
     simp only [BP]
     rw [Az,cond_false,hall,List.take_length,List.drop_length]
     simp) fz (([] : List Cnt),n.2.1,n.2.2,0) ⟨0,Nat.zero_le _,by rw [List.take_zero,List.drop_zero,<- f3]; rfl,rfl⟩ (by unfold fz; simp only; omega)
   rw [e,AE,ho]
   cases n.2.1.all (Mu n.1 x) <;> rfl
end
end Go.Proofs.YtklcofndjkjldaaGreat
