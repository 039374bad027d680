/-
 Changes of counted relations and of views: the reference. On the printed functions; conditions: lengths, numbers in range.
-/
import Derived.Test.YtpcbnmcfplioeaaGreatAwNC1
namespace Go.Proofs.YtpcbnmcfplioeaaGreat
open Go.RowKit
set_option linter.unusedVariables false
set_option linter.unusedSimpArgs false
def prC (c : Cnt) : List Pr:=c.2.1.zip c.2.2
def G1 (a b : Cnt) : List Pr:=prC a ++ prC b
def Py (a b : Cnt) : Cnt × Bool:=cond (H2 a && (H2 b && ((a.1 == b.1) && (FZ (a.1,keysL (G1 a b)) && H2 (Qz a.1 (G1 a b)))))) (Qz a.1 (G1 a b),true) ((0,[],[]),false)
theorem Ri {c : Cnt} (h : H2 c = true) : (prC c).length = c.2.1.length ∧ (prC c).map (·.1) = c.2.1 ∧ ∀ p ∈ prC c,p.1 ∈ c.2.1 ∧ p.2 ∈ c.2.2:=by
 have f2:=(Db h).2.1
 refine ⟨by unfold prC; rw [List.length_zip]; omega,by unfold prC; rw [<- List.unzip_fst,List.unzip_zip f2],fun p hp => ?_⟩
 obtain ⟨a,b⟩:=p
 exact List.of_mem_zip hp
theorem WL {a b : Cnt} (ha : H2 a = true) (hb : H2 b = true) : OkL (G1 a b):=by
 obtain ⟨-,a2,a3,a4,-,a6,a7⟩:=Db ha
 obtain ⟨-,b2,b3,b4,-,b6,b7⟩:=Db hb
 obtain ⟨p1,p2,p3⟩:=Ri ha
 obtain ⟨q1,q2,q3⟩:=Ri hb
 refine ⟨by unfold G1; rw [List.length_append]; omega,fun p hp => ?_⟩
 rcases List.mem_append.1 hp with hp | hp
 ·obtain ⟨h1,h2⟩:=p3 p hp
  exact ⟨by have:=(a4 _ h1).1; unfold lim; omega,a7 _ h2⟩
 ·obtain ⟨h1,h2⟩:=q3 p hp
  exact ⟨by have:=(b4 _ h1).1; unfold lim; omega,b7 _ h2⟩
theorem UW {a b : Cnt} (ha : H2 a = true) (hb : H2 b = true) : keysL (G1 a b) = sortB (a.2.1 ++ b.2.1):=by
 unfold keysL G1
 rw [List.map_append,(Ri ha).2.1,(Ri hb).2.1]
theorem eD {a b : Cnt} (h1 : H1 a) (h2 : H1 b) : D8 a b = some (Py a b):=by
 unfold D8 Py
 rw [aC h1,AR]
 cases ha : H2 a with
 | false => rfl
 | true =>
  rw [Bool.not_true,cond_false,aC h2,AR]
  cases hb : H2 b with
  | false => rfl
  | true =>
   obtain ⟨-,a2,a3,a4,a5,a6,a7⟩:=Db ha
   obtain ⟨-,b2,b3,b4,-,b6,b7⟩:=Db hb
   rw [Bool.not_true,cond_false]
   cases he : a.1 == b.1 with
   | false => rw [bne,he]; rfl
   | true =>
    have hab : a.1 = b.1:=by simpa using he
    rw [bne,he,Bool.not_true,cond_false]
    simp only [List.nil_append]
    rw [Ap (by rw [List.length_nil]; unfold lim; omega),Ap (by unfold lim; omega),Ap (by rw [List.length_nil]; unfold lim; omega),Ap (by unfold lim; omega)]
    have hz : (a.2.1 ++ b.2.1).zip (a.2.2 ++ b.2.2) = G1 a b:=by unfold G1 prC; exact List.zip_append a2
    have hok:=WL ha hb
    have hrows : ∀ r ∈ a.2.1 ++ b.2.1,(r.length : Int) = a.1 ∧ NY r = true:=fun r hr => by
     rcases List.mem_append.1 hr with hr | hr
     ·exact a4 r hr
     ·rw [hab]; exact b4 r hr
    have hbad : A1 (a.2.1 ++ b.2.1) (fun _ x => MX a.1 x) = false:=LF fun i hi => by
     have h1:=hrows _ (List.getElem_mem hi)
     unfold MX
     rw [h1.2,h1.1]; simp
    have hk:=UW ha hb
    cases hr : FZ (a.1,keysL (G1 a b)) with
    | true =>
     have hn : nrB a.1 (a.2.1 ++ b.2.1) = ((a.1,sortB (a.2.1 ++ b.2.1)),true):=by
      unfold nrB
      rw [hbad,<- hk,hr]; rfl
     rw [kG hn (by rw [List.length_append,List.length_append]; omega) (by rw [hz]; exact hok),AR,hz]
     cases H2 (Qz a.1 (G1 a b)) <;> rfl
    | false =>
     have hn : nrB a.1 (a.2.1 ++ b.2.1) = ((0,[]),false):=by
      unfold nrB
      rw [hbad,<- hk,hr]; rfl
     have hsm : Bl (a.2.1 ++ b.2.1):=⟨by rw [List.length_append]; unfold lim; omega,fun r hr => by have:=(hrows r hr).1; unfold lim; omega⟩
     unfold Hq
     rw [lC hsm,AR,hn]
     rfl
theorem fB {a b : Cnt} : H1 (Py a b).1:=by
 unfold Py
 cases ha : H2 a with
 | false => exact LV
 | true =>
  cases hb : H2 b with
  | false => exact LV
  | true =>
   cases a.1 == b.1 with
   | false => exact LV
   | true =>
    cases FZ (a.1,keysL (G1 a b)) with
    | false => exact LV
    | true =>
     cases H2 (Qz a.1 (G1 a b)) with
     | false => exact LV
     | true => exact Qr (WL ha hb)
theorem WK {a b : Cnt} (h : (Py a b).2 = true) : H2 a = true ∧ H2 b = true ∧ a.1 = b.1 ∧ H2 (Py a b).1 = true ∧ (Py a b).1 = Qz a.1 (G1 a b):=by
 unfold Py at h ⊢
 cases hb : (H2 a && (H2 b && ((a.1 == b.1) && (FZ (a.1,keysL (G1 a b)) && H2 (Qz a.1 (G1 a b)))))) with
 | false => rw [hb] at h; cases h
 | true =>
  simp only [Bool.and_eq_true,beq_iff_eq] at hb
  exact ⟨hb.1,hb.2.1,hb.2.2.1,hb.2.2.2.2,rfl⟩
def zOf (d : List Tbl) (q : Qry) : Cnt × Bool:=(HV d q).getD ((0,[],[]),false)
section
variable {d : List Tbl} {q : Qry} {x : Dlt}
theorem fx (h : KU d) (hs : smQ q) : HV d q = some (zOf d q) ∧ Fq d q = some (cond (zOf d q).2 ((q,(zOf d q).1),true) (((0,[],[]),(0,[],[])),false)) ∧ H1 (zOf d q).1 ∧ ((zOf d q).2 = true -> H2 (zOf d q).1 = true ∧ UH q = true) ∧ ((zOf d q).2 = false -> (zOf d q).1 = (0,[],[])):=by
 obtain ⟨y,e1,e2,y1,y2,y3⟩:=TM h hs
 have : zOf d q = y:=by unfold zOf; rw [e1]; rfl
 rw [this]
 exact ⟨e1,e2,y1,y2,y3⟩
def TR (d : List Tbl) (v : Vw) : Bool:=(zOf d v.1).2 && Ko (zOf d v.1).1 v.2
theorem cd {v : Vw} (h : KU d) (hs : smQ v.1) : A4 d v = some (TR d v):=by
 obtain ⟨e1,-,y1,-,-⟩:=fx h hs
 unfold A4 TR
 rw [e1,AR]
 cases (zOf d v.1).2 with
 | false => rfl
 | true => rw [cond_true,Sm y1,AR]; rfl
theorem gN {v : Vw} (h : KU d) (hs : smQ v.1) : BH d v = some (TR d v):=by
 obtain ⟨-,e2,y1,-,-⟩:=fx h hs
 unfold BH TR
 rw [e2,AR]
 cases (zOf d v.1).2 with
 | false => rfl
 | true => rw [cond_true]; simp only []; rw [cond_true,Up y1,AR]; rfl
def ntB (n : Ntf) : Bool:=dbB n.1 && (((n.2.1.length : Int) == (n.2.2.length : Int)) && (!decide (4 < (n.2.1.length : Int)) && !A1 n.2.1 fun k v => !TR n.1 v || !atB n.2.2 k fun c => Ko v.2 c))
theorem kC {n : Ntf} (h : TH n) : BP n = some (ntB n):=by
 obtain ⟨h1,⟨h2,h3⟩,h4,h5⟩:=h
 unfold BP ntB A1
 rw [eG h1,AR]
 cases dbB n.1 with
 | false => rfl
 | true =>
  rw [Bool.not_true,cond_false,Bool.true_and,bne]
  cases hl : (n.2.1.length : Int) == (n.2.2.length : Int) with
  | false => rfl
  | true =>
   have hl' : n.2.1.length = n.2.2.length:=R3 hl
   rw [Bool.not_true,cond_false,Bool.true_and]
   cases decide (4 < (n.2.1.length : Int)) with
   | true => rfl
   | false =>
    rw [cond_false,BS (fun k => atB n.2.1 k fun v => !TR n.1 v || !atB n.2.2 k fun c => Ko v.2 c) h2 (fun k hk rec => by
     have hk' : k < n.2.2.length:=by omega
     have hv:=h3 _ (List.getElem_mem hk)
     unfold BJ
     rw [AL hk,cond_true,Am hk,AR,cd h1 hv.1,AR,Am hk',AR,AR,AS hk (AA h2),AY hk,AY hk',Sm hv.2,AR]
     cases TR n.1 n.2.1[k] <;> cases Ko n.2.1[k].2 n.2.2[k] <;> rfl) (fun rec => by unfold BJ; rw [AG]; rfl)]
    cases (List.range n.2.1.length).any fun k => atB n.2.1 k fun v => !TR n.1 v || !atB n.2.2 k fun c => Ko v.2 c <;> rfl
theorem Sf {n : Ntf} (h : ntB n = true) : dbB n.1 = true ∧ n.2.1.length <= 4 ∧ n.2.2 = n.2.1.map (·.2) ∧ ∀ v ∈ n.2.1,zOf n.1 v.1 = (v.2,true):=by
 unfold ntB at h
 simp only [Bool.and_eq_true,Bool.not_eq_true',decide_eq_false_iff_not] at h
 obtain ⟨h1,h2,h3,h4⟩:=h
 have hl : n.2.1.length = n.2.2.length:=R3 h2
 have hk : ∀ k (hk : k < n.2.1.length),zOf n.1 n.2.1[k].1 = (n.2.1[k].2,true) ∧ n.2.1[k].2 = n.2.2[k]'(by omega):=fun k hk => by
  have:=He h4 hk
  rw [AY (by omega)] at this
  simp only [Bool.or_eq_false_iff,Bool.not_eq_false'] at this
  obtain ⟨g1,g2⟩:=this
  unfold TR at g1
  rw [Bool.and_eq_true,KC] at g1
  exact ⟨Prod.ext g1.2 g1.1,KC.1 g2⟩
 refine ⟨h1,by omega,List.ext_getElem (by rw [List.length_map]; omega) fun i h5 h6 => ?_,fun v hv => ?_⟩
 ·rw [List.getElem_map]; exact ((hk i (by omega)).2).symm
 ·obtain ⟨k,hk',rfl⟩:=List.mem_iff_getElem.1 hv
  exact (hk k hk').1
def vdR (d : List Tbl) (q : Qry) (x : Dlt) : Cnt × Bool:=cond ((I8 d x).2 && ((zOf d q).2 && (zOf (I8 d x).1 q).2)) (Py (zOf (I8 d x).1 q).1 (negC (zOf d q).1)) ((0,[],[]),false)
theorem WN (h : KU d) (hd : d.length < lim) (hx : smD x) : KU (I8 d x).1:=by
 unfold I8
 simp only
 cases (KN d x).2 with
 | false => exact h
 | true =>
  simp only [Bool.not_true,cond_false]
  cases hu : (unR (RC (B8 d x.1).1 (KN d x).1.2.2).1 (KN d x).1.2.1).2 with
  | false => exact h
  | true => exact eN h hd hx.1 ff.1
theorem o9 (h : KU d) (hd : d.length < lim) (hx : smD x) (hq : smQ q) : F0 d q x = some (vdR d q x):=by
 obtain ⟨z1,-,z2,-,-⟩:=fx h hq
 obtain ⟨y1,-,y2,-,-⟩:=fx (WN h hd hx) hq
 unfold F0 vdR
 rw [kw h hd hx,AR,z1,AR,y1,AR]
 cases (I8 d x).2 with
 | false => rfl
 | true =>
  rw [Bool.not_true,cond_false,Bool.true_and]
  cases (zOf d q).2 with
  | false => rfl
  | true =>
   rw [Bool.not_true,cond_false,Bool.true_and]
   cases (zOf (I8 d x).1 q).2 with
   | false => rfl
   | true => rw [Bool.not_true,cond_false,YB z2,AR,eD y2 (Se z2),AR]; rfl
theorem aZ : H1 (vdR d q x).1:=by
 unfold vdR
 cases ((I8 d x).2 && ((zOf d q).2 && (zOf (I8 d x).1 q).2)) with
 | false => exact LV
 | true => exact fB
def avR (v : Vw) (d : List Tbl) (x : Dlt) : Vw × Bool:=cond ((vdR d v.1 x).2 && (TR d v && (Py v.2 (vdR d v.1 x).1).2)) ((v.1,(Py v.2 (vdR d v.1 x).1).1),true) (((0,[],[]),(0,[],[])),false)
theorem oy {v : Vw} (h : KU d) (hd : d.length < lim) (hx : smD x) (hv : smQ v.1 ∧ H1 v.2) : FW v d x = some (avR v d x):=by
 unfold FW avR
 rw [o9 h hd hx hv.1,AR]
 cases (vdR d v.1 x).2 with
 | false => rfl
 | true =>
  rw [Bool.not_true,cond_false,cd h hv.1,AR,Bool.true_and]
  cases TR d v with
  | false => rfl
  | true =>
   rw [Bool.not_true,cond_false,eD hv.2 aZ,AR,Bool.true_and]
   cases (Py v.2 (vdR d v.1 x).1).2 with
   | false => rfl
   | true => rw [Bool.not_true,cond_false,Yz hv.1,AR]; rfl
def Qk (d : List Tbl) (x : Dlt) (v : Vw) : Bool:=(vdR d v.1 x).2 && (Py v.2 (vdR d v.1 x).1).2
def newC (d : List Tbl) (x : Dlt) (v : Vw) : Cnt:=(Py v.2 (vdR d v.1 x).1).1
def ncR (n : Ntf) (x : Dlt) : Ntf × List Cnt × Bool:=cond (ntB n && ((I8 n.1 x).2 && n.2.1.all (Qk n.1 x))) (((I8 n.1 x).1,n.2.1.map fun v => (v.1,newC n.1 x v),n.2.1.map (newC n.1 x)),n.2.1.map fun v => (vdR n.1 v.1 x).1,true) (n,[],false)
theorem eo {α : Type} {f : α -> α} {l : List α} {k : Nat} (hk : k < l.length) : ((l.take k).map f ++ l.drop k).set k (f l[k]) = (l.take (k + 1)).map f ++ l.drop (k + 1):=by
 have hl : ((l.take k).map f).length = k:=by rw [List.length_map,List.length_take]; omega
 rw [List.set_append_right _ _ (by omega),hl,Nat.sub_self,List.drop_eq_getElem_cons hk,List.set_cons_zero,take_snoc hk,List.map_append,List.append_assoc]
 rfl
theorem bV {α β : Type} {f g : α -> β} {l : List α} {k : Nat} (hk : k < l.length) : ((l.take k).map f ++ (l.drop k).map g).set k (f l[k]) = (l.take (k + 1)).map f ++ (l.drop (k + 1)).map g:=by
 have hl : ((l.take k).map f).length = k:=by rw [List.length_map,List.length_take]; omega
 rw [List.set_append_right _ _ (by omega),hl,Nat.sub_self,List.drop_eq_getElem_cons hk,List.map_cons,List.set_cons_zero,take_snoc hk,List.map_append,List.append_assoc]
 rfl
theorem Vf {α : Type} {A B : List α} {k : Nat} (hk : k < (A ++ B).length) : ∃ e,AO (A ++ B) (k : Int) = some e:=⟨_,Am hk⟩
theorem pX {n : Ntf} (h : TH n) (hI : ntI n) (hd : n.1.length < lim) (hx : smD x) : DW n x = some (ncR n x):=by
 unfold DW ncR
 rw [Yy h hI,AR,kw h.1 hd hx,AR,kC h,AR]
 cases hn : ntB n with
 | false => rfl
 | true =>
  obtain ⟨f1,f2,f3,f4⟩:=Sf hn
  rw [Bool.not_true,cond_false,Bool.true_and]
  cases happ : (I8 n.1 x).2 with
  | false => rfl
  | true =>
   rw [Bool.not_true,cond_false,Bool.true_and]
   have hdl : n.2.2.length = n.2.1.length:=by rw [f3,List.length_map]
   obtain ⟨o,e,ho⟩:=Lf (B:=BR n x) (fun s => ∃ k : Nat,k <= n.2.1.length ∧ s = ((n.2.1.take k).map (fun v => (vdR n.1 v.1 x).1),(n.2.1.take k).map (fun v => (v.1,newC n.1 x v)) ++ n.2.1.drop k,(n.2.1.take k).map (newC n.1 x) ++ (n.2.1.drop k).map (·.2),(k : Int)) ∧ (n.2.1.take k).all (Qk n.1 x) = true) (fun s => n.2.1.length - s.2.2.2.toNat)
    (fun o => o = cond (n.2.1.all (Qk n.1 x)) (.inl (n.2.1.map (fun v => (vdR n.1 v.1 x).1),n.2.1.map (fun v => (v.1,newC n.1 x v)),n.2.1.map (newC n.1 x))) (.inr (n,[],false))) (fun s hs => by
    obtain ⟨k,hk,rfl,hall⟩:=hs
    by_cases hlt : k < n.2.1.length
    ·have hv:=h.2.1.2 _ (List.getElem_mem hlt)
     have hk2 : k < n.2.2.length:=by omega
     have hdk : n.2.2[k] = n.2.1[k].2:=by simp only [f3,List.getElem_map]
     have hok : TR n.1 n.2.1[k] = true:=by
      unfold TR
      rw [f4 _ (List.getElem_mem hlt),KC.2 rfl]; rfl
     have hW : IntKind.i64.wrap ((k : Int) + 1) = ((k + 1 : Nat) : Int):=AS hlt (AA h.2.1.1)
     have hav : (avR n.2.1[k] n.1 x) = cond (Qk n.1 x n.2.1[k]) ((n.2.1[k].1,newC n.1 x n.2.1[k]),true) (((0,[],[]),(0,[],[])),false):=by
      unfold avR Qk newC
      rw [hok,Bool.true_and]
     have hB : ∀ rec y1 y2 y3,BR n x rec (y1,y2,y3,(k : Int)) = Bq rec n y1 y2 y3 (k : Int) (vdR n.1 n.2.1[k].1 x) (avR n.2.1[k] n.1 x) (Py n.2.1[k].2 (vdR n.1 n.2.1[k].1 x).1) (!Qk n.1 x n.2.1[k]):=fun rec y1 y2 y3 => by
      simp only [BR]
      rw [AL hlt,cond_true,Am hlt,AR,o9 h.1 hd hx hv.1,AR,AR,oy h.1 hd hx hv,AR,Am hk2,AR,hdk,eD hv.2 aZ,AR,hav]
      unfold Qk
      cases (vdR n.1 n.2.1[k].1 x).2 with
      | false => rfl
      | true =>
       cases (Py n.2.1[k].2 (vdR n.1 n.2.1[k].1 x).1).2 <;> rfl
     cases hc : Qk n.1 x n.2.1[k] with
     | false =>
      left
      refine ⟨_,rfl,fun rec => ?_⟩
      have hf : n.2.1.all (Qk n.1 x) = false:=by
       cases ha : n.2.1.all (Qk n.1 x) with
       | false => rfl
       | true => rw [List.all_eq_true.1 ha _ (List.getElem_mem hlt)] at hc; cases hc
      rw [hf,hB,hc]
      unfold Bq
      rw [Bool.not_false,cond_true,Yy h hI,AR]; rfl
     | true =>
      right
      refine ⟨_,⟨k + 1,hlt,rfl,by rw [take_snoc hlt,List.all_append,hall,List.all_cons,hc]; rfl⟩,by simp only [Int.toNat_natCast]; omega,fun rec => ?_⟩
      have l1 : ((n.2.1.take k).map (fun v => (v.1,newC n.1 x v)) ++ n.2.1.drop k).length = n.2.1.length:=by rw [List.length_append,List.length_map,List.length_take,List.length_drop]; omega
      have l2 : ((n.2.1.take k).map (newC n.1 x) ++ (n.2.1.drop k).map (·.2)).length = n.2.1.length:=by rw [List.length_append,List.length_map,List.length_map,List.length_take,List.length_drop]; omega
      obtain ⟨a1,g1⟩:=Vf (A:=(n.2.1.take k).map (fun v => (v.1,newC n.1 x v))) (B:=n.2.1.drop k) (k:=k) (by rw [l1]; exact hlt)
      obtain ⟨a2,g2⟩:=Vf (A:=(n.2.1.take k).map (newC n.1 x)) (B:=(n.2.1.drop k).map (·.2)) (k:=k) (by rw [l2]; exact hlt)
      rw [hB,hc,hav,hc]
      unfold Bq
      rw [Bool.not_true,cond_false,Ap (by rw [l1]; omega),g1,AR,Ap (by rw [l2]; omega),g2,AR,Ap (by rw [List.length_map,List.length_take,List.length_singleton]; unfold lim; omega),hW]
      unfold Jr
      rw [Int.toNat_natCast,take_snoc hlt,List.map_append]
      have p1:=eo (f:=fun v : Vw => (v.1,newC n.1 x v)) hlt
      have p2:=bV (f:=newC n.1 x) (g:=fun v : Vw => v.2) hlt
      rw [take_snoc hlt] at p1 p2
      simp only [cond_true]
      rw [p1]
      have e2 : (Py n.2.1[k].2 (vdR n.1 n.2.1[k].1 x).1).1 = newC n.1 x n.2.1[k]:=rfl
      rw [e2,p2]
      rfl
    ·have hkl : k = n.2.1.length:=by omega
     left
     refine ⟨_,rfl,fun rec => ?_⟩
     subst hkl
     rw [List.take_length] at hall
     simp only [BR]
     rw [AG,cond_false,hall,List.take_length,List.drop_length]
     simp) fz (([] : List Cnt),n.2.1,n.2.2,0) ⟨0,Nat.zero_le _,by rw [List.take_zero,List.drop_zero,<- f3]; rfl,rfl⟩ (by unfold fz; simp only; omega)
   rw [e,AR,ho]
   cases n.2.1.all (Qk n.1 x) <;> rfl
end
end Go.Proofs.YtpcbnmcfplioeaaGreat
