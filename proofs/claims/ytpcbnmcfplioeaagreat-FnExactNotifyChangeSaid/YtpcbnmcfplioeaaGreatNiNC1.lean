/-
 Changes of counted relations, views and notifiers: the program gives what the reference gives. On the printed functions; conditions: lengths, numbers in range.
-/
import Derived.Test.YtpcbnmcfplioeaaGreatNsNC1
namespace Go.Proofs.YtpcbnmcfplioeaaGreat
open Go.RowKit
set_option linter.unusedVariables false
set_option linter.unusedSimpArgs false
theorem mH {c : Cnt} (h : H1 c) : ED c = some (negC c):=by
 unfold ED
 rw [RP h,AR]
 have hl:=DN (body:=B7 c) (out:=c.2.2.map fun n => IntKind.i64.wrap (0 - n)) (fun k => ((c.2.2.take k).map (fun n => IntKind.i64.wrap (0 - n)) ++ c.2.2.drop k,(k : Int))) c.2.2.length (fun k hk rec => by
  have l1 : ((c.2.2.take k).map (fun n => IntKind.i64.wrap (0 - n)) ++ c.2.2.drop k).length = c.2.2.length:=by rw [List.length_append,List.length_map,List.length_take,List.length_drop]; omega
  have hg : AO ((c.2.2.take k).map (fun n => IntKind.i64.wrap (0 - n)) ++ c.2.2.drop k) (k : Int) = some c.2.2[k]:=by
   rw [Am (by rw [l1]; exact hk),List.getElem_append_right (by rw [List.length_map,List.length_take]; omega)]
   simp only [List.length_map,List.length_take,List.getElem_drop]
   congr 2
   omega
  have p1:=eo (f:=fun n => IntKind.i64.wrap (0 - n)) hk
  simp only [B7]
  rw [AL hk,cond_true,Ap (by rw [l1]; omega),hg,AR,AR,AS hk (AA h.2)]
  unfold Jr
  rw [Int.toNat_natCast,p1]) (fun rec => by
  simp only [B7]
  rw [AG,cond_false,List.take_length,List.drop_length,List.append_nil]) fz (HP h.2)
 have hl' : Ao (B7 c) fz (c.2.2,0) = some (c.2.2.map fun n => IntKind.i64.wrap (0 - n)):=hl
 rw [hl',AR]
 rfl
theorem YR : ∀ {K : List Row} {C : List Int},K.Nodup -> K.length = C.length -> ∀ i (hi : i < K.length) (hi' : i < C.length),Fp (K.zip C) K[i] = C[i]
 | [],_,_,_,i,hi,_ => by cases hi
 | k :: K,[],_,h,_,_,_ => by cases h
 | k :: K,c :: C,hn,hl,i,hi,hi' => by
  obtain ⟨n1,n2⟩:=List.nodup_cons.1 hn
  rw [List.zip_cons_cons,Fp]
  cases i with
  | zero =>
   have h0 : Fp (K.zip C) k = 0:=SD fun p hp e => n1 (by
    obtain ⟨a,b⟩:=p
    have:=(List.of_mem_zip hp).1
    have e : a = k:=e
    rw [e] at this; exact this)
   simp only [List.getElem_cons_zero]
   rw [if_pos trivial,h0]; omega
  | succ i =>
   have hi1 : i < K.length:=by simpa using hi
   have hi2 : i < C.length:=by simpa using hi'
   simp only [List.getElem_cons_succ]
   rw [if_neg (fun e => n1 (by rw [e]; exact List.getElem_mem hi1)),YR n2 (by simpa using hl) i hi1 hi2]; omega
theorem Zf {c : Cnt} (h : H2 c = true) : keysL (prC c) = c.2.1 ∧ (keysL (prC c)).map (Fp (prC c)) = c.2.2:=by
 obtain ⟨f1,f2,-⟩:=Db h
 have hs : Srt c.2.1:=((HS (c.1,c.2.1)).1 f1).2.2.2
 have e1 : keysL (prC c) = c.2.1:=by
  unfold keysL
  rw [(Ri h).2.1]
  exact (M0 hs fun z => Iff.rfl).symm
 refine ⟨e1,?_⟩
 rw [e1]
 refine List.ext_getElem (by rw [List.length_map]; exact f2) fun i h1 h2 => ?_
 rw [List.getElem_map]
 exact YR (YO hs) f2 i (by rw [List.length_map] at h1; exact h1) h2
theorem ay {a b : Cnt} (ha : H2 a = true) (hb : H2 b = true) (he : a.1 = b.1) : FZ (a.1,keysL (G1 a b)) = !decide (4000 < ((keysL (G1 a b)).length : Int)):=by
 obtain ⟨-,a2,a3,a4,a5,a6,a7⟩:=Db ha
 obtain ⟨-,b2,b3,b4,-,b6,b7⟩:=Db hb
 rw [Bool.eq_iff_iff,HS,Bool.not_eq_true',decide_eq_false_iff_not]
 constructor
 ·rintro ⟨-,h,-⟩
  have h : (keysL (G1 a b)).length <= 4000:=h
  omega
 ·intro h
  refine ⟨⟨a5,a6⟩,(by show (keysL (G1 a b)).length <= 4000; omega),fun r hr => ?_,Nw _⟩
  have hr : r ∈ keysL (G1 a b):=hr
  rw [UW ha hb,FE] at hr
  rcases List.mem_append.1 hr with hr | hr
  ·exact a4 r hr
  ·rw [show ((a.1,keysL (G1 a b)) : Rln).1 = b.1 from he]; exact b4 r hr
theorem c7 {a b : Cnt} (h1 : H1 a) (h2 : H1 b) : DY a b = some (Py a b):=by
 unfold DY Py
 rw [XD h1,AR]
 cases ha : H2 a with
 | false => rfl
 | true =>
  rw [Bool.not_true,cond_false,XD h2,AR]
  cases hb : H2 b with
  | false => rfl
  | true =>
   obtain ⟨-,a2,a3,a4,a5,a6,a7⟩:=Db ha
   obtain ⟨-,b2,b3,b4,-,b6,b7⟩:=Db hb
   rw [Bool.not_true,cond_false]
   cases he : a.1 == b.1 with
   | false => rw [bne,he]; rfl
   | true =>
    have hab : a.1 = b.1:=by simpa using he
    rw [bne,he,Bool.not_true,cond_false,RP h1,AR]
    have hok:=WL ha hb
    obtain ⟨q1,q2,q3⟩:=Ri hb
    obtain ⟨i1,i2⟩:=Zf ha
    have hokk : ∀ k,OkL (prC a ++ (prC b).take k):=fun k => ⟨by
     have h3:=hok.1
     unfold G1 at h3
     rw [List.length_append] at h3
     rw [List.length_append,List.length_take]; omega,fun p hp => by
     refine hok.2 p ?_
     rcases List.mem_append.1 hp with hp | hp
     ·exact List.mem_append_left _ hp
     ·exact List.mem_append_right _ (List.mem_of_mem_take hp)⟩
    have hloop:=DN (body:=Dn b) (out:=ba a.1 (G1 a b)) (fun k => (a.1,keysL (prC a ++ (prC b).take k),(keysL (prC a ++ (prC b).take k)).map (Fp (prC a ++ (prC b).take k)),(k : Int))) b.2.1.length (fun k hk rec => by
     have hk2 : k < b.2.2.length:=by omega
     have hk3 : k < (prC b).length:=by omega
     have e : (prC b)[k] = (b.2.1[k],b.2.2[k]):=List.getElem_zip
     have ht : GU (a.1,keysL (prC a ++ (prC b).take k),(keysL (prC a ++ (prC b).take k)).map (Fp (prC a ++ (prC b).take k))) b.2.1[k] b.2.2[k] = _:=XH (a:=a.1) (hokk k) (row:=b.2.1[k]) (n:=b.2.2[k]) (h2.1.2 _ (List.getElem_mem hk)) (b7 _ (List.getElem_mem hk2))
     simp only [Dn]
     rw [AL hk,cond_true,Am hk,AR,Am hk2,AR,ht,AR,AS hk (AA h2.1.1),take_snoc hk3,e,List.append_assoc]; rfl) (fun rec => by
     simp only [Dn]
     rw [AG,cond_false,<- q1,List.take_length]; rfl) fz (HP h2.1.1)
    have hloop' : Ao (Dn b) fz (a.1,a.2.1,a.2.2,0) = some (ba a.1 (G1 a b)):=by
     have e0 : prC a ++ (prC b).take 0 = prC a:=by rw [List.take_zero,List.append_nil]
     rw [e0,i2,i1] at hloop
     exact hloop
    rw [hloop',AR]
    show (Ad (Fu (a.1,AC 0 (keysL (G1 a b)),(keysL (G1 a b)).map (Fp (G1 a b)))) _) = _
    rw [Ta hok,AR]
    simp only [ba]
    have hE : (AC 0 (keysL (G1 a b))).length = (keysL (G1 a b)).length:=Ix 0 _
    rw [Ap (Ut _),RT,ay ha hb hab,hE]
    cases decide (4000 < ((keysL (G1 a b)).length : Int)) with
    | true => rfl
    | false =>
     rw [cond_false]
     have hv:=XD (Qr (a:=a.1) hok)
     show (Ad (A2 (Qz a.1 (G1 a b))) _) = _
     rw [hv,AR]
     cases H2 (Qz a.1 (G1 a b)) <;> rfl
section
variable {d : List Tbl} {q : Qry} {x : Dlt}
theorem oX (h : KU d) (hd : d.length < lim) (hx : smD x) (hq : smQ q) : FY d q x = some (vdR d q x):=by
 obtain ⟨-,z1,z2,-,-⟩:=fx h hq
 obtain ⟨-,y1,y2,-,-⟩:=fx (WN h hd hx) hq
 unfold FY vdR
 rw [gF h hd hx,AR,y1,AR,z1,AR]
 cases (I8 d x).2 with
 | false => rfl
 | true =>
  rw [Bool.not_true,cond_false,Bool.true_and]
  cases (zOf (I8 d x).1 q).2 with
  | false => rw [Bool.and_false]; rfl
  | true =>
   simp only [cond_true,Bool.not_true,cond_false]
   cases (zOf d q).2 with
   | false => rfl
   | true =>
    simp only [cond_true,Bool.not_true,cond_false]
    rw [mH z2,AR,c7 y2 (Se z2),AR]; rfl
theorem my {v : Vw} (h : KU d) (hd : d.length < lim) (hx : smD x) (hv : smQ v.1 ∧ H1 v.2) : FQ v d x = some (avR v d x):=by
 unfold FQ avR
 rw [oX h hd hx hv.1,AR,gN h hv.1,AR]
 cases TR d v with
 | false => rw [Bool.false_and,Bool.and_false]; rfl
 | true =>
  rw [Bool.not_true,cond_false,Bool.true_and]
  cases (vdR d v.1 x).2 with
  | false => rfl
  | true =>
   rw [Bool.not_true,cond_false,c7 hv.2 aZ,AR,Bool.true_and]
   cases (Py v.2 (vdR d v.1 x).1).2 with
   | false => rfl
   | true => rw [Bool.not_true,cond_false,Uq hv.1,AR]; rfl
theorem mI {n : Ntf} (h : TH n) : Cr n = some (ntB n):=by
 obtain ⟨b,e1,e2,-⟩:=ag h
 rw [kC h] at e1
 injection e1 with e1
 rw [e2,e1]
theorem pD {n : Ntf} (h : TH n) (hd : n.1.length < lim) (hx : smD x) : CN n x = some (ncR n x):=by
 unfold CN ncR
 rw [gF h.1 hd hx,AR,mI h,AR]
 cases hn : ntB n with
 | false => rw [Bool.not_false,cond_true]; unfold Ct; rw [cond_true,RQ h]; rfl
 | true =>
  obtain ⟨f1,f2,f3,f4⟩:=Sf hn
  rw [Bool.not_true,cond_false,Bool.true_and]
  unfold Ct
  cases happ : (I8 n.1 x).2 with
  | false => rw [Bool.not_false,cond_true,RQ h]; rfl
  | true =>
   rw [Bool.not_true,cond_false,Bool.true_and,RQ h,AR]
   have hdl : n.2.2.length = n.2.1.length:=by rw [f3,List.length_map]
   obtain ⟨o,e,ho⟩:=Lf (B:=BO n x) (fun s => ∃ k : Nat,k <= n.2.1.length ∧ s = ((n.2.1.take k).map (fun v => (v.1,newC n.1 x v)) ++ n.2.1.drop k,(n.2.1.take k).map (newC n.1 x) ++ (n.2.1.drop k).map (·.2),(n.2.1.take k).map (fun v => (vdR n.1 v.1 x).1),(k : Int)) ∧ (n.2.1.take k).all (Qk n.1 x) = true) (fun s => n.2.1.length - s.2.2.2.toNat)
    (fun o => o = cond (n.2.1.all (Qk n.1 x)) (.inl (n.2.1.map (fun v => (v.1,newC n.1 x v)),n.2.1.map (newC n.1 x),n.2.1.map (fun v => (vdR n.1 v.1 x).1))) (.inr (n,[],false))) (fun s hs => by
    obtain ⟨k,hk,rfl,hall⟩:=hs
    by_cases hlt : k < n.2.1.length
    ·have hv:=h.2.1.2 _ (List.getElem_mem hlt)
     have hk2 : k < n.2.2.length:=by omega
     have hdk : n.2.2[k] = n.2.1[k].2:=by simp only [f3,List.getElem_map]
     have hok : TR n.1 n.2.1[k] = true:=by
      unfold TR
      rw [f4 _ (List.getElem_mem hlt),KC.2 rfl]; rfl
     have hW : IntKind.i64.wrap ((k : Int) + 1) = ((k + 1 : Nat) : Int):=AS hlt (AA h.2.1.1)
     have hav : (avR n.2.1[k] n.1 x) = cond (Qk n.1 x n.2.1[k]) ((n.2.1[k].1,newC n.1 x n.2.1[k]),true) (((0,[],[]),(0,[],[])),false):=by
      unfold avR Qk newC
      rw [hok,Bool.true_and]
     have hB : ∀ rec y1 y2 y3,BO n x rec (y1,y2,y3,(k : Int)) = Bp rec n y1 y2 y3 (k : Int) (vdR n.1 n.2.1[k].1 x) (avR n.2.1[k] n.1 x) (Py n.2.1[k].2 (vdR n.1 n.2.1[k].1 x).1) (!Qk n.1 x n.2.1[k]):=fun rec y1 y2 y3 => by
      simp only [BO]
      rw [AL hlt,cond_true,Am hlt,AR,oX h.1 hd hx hv.1,AR,my h.1 hd hx hv,AR,Am hk2,AR,hdk,c7 hv.2 aZ,AR,hav]
      unfold Qk
      cases (vdR n.1 n.2.1[k].1 x).2 with
      | false => rfl
      | true =>
       cases (Py n.2.1[k].2 (vdR n.1 n.2.1[k].1 x).1).2 <;> rfl
     cases hc : Qk n.1 x n.2.1[k] with
     | false =>
      left
      refine ⟨_,rfl,fun rec => ?_⟩
      have hf : n.2.1.all (Qk n.1 x) = false:=by
       cases ha : n.2.1.all (Qk n.1 x) with
       | false => rfl
       | true => rw [List.all_eq_true.1 ha _ (List.getElem_mem hlt)] at hc; cases hc
      rw [hf,hB,hc]
      unfold Bp
      rw [Bool.not_false,cond_true,RQ h,AR]; rfl
     | true =>
      right
      refine ⟨_,⟨k + 1,hlt,rfl,by rw [take_snoc hlt,List.all_append,hall,List.all_cons,hc]; rfl⟩,by simp only [Int.toNat_natCast]; omega,fun rec => ?_⟩
      have l1 : ((n.2.1.take k).map (fun v => (v.1,newC n.1 x v)) ++ n.2.1.drop k).length = n.2.1.length:=by rw [List.length_append,List.length_map,List.length_take,List.length_drop]; omega
      have l2 : ((n.2.1.take k).map (newC n.1 x) ++ (n.2.1.drop k).map (·.2)).length = n.2.1.length:=by rw [List.length_append,List.length_map,List.length_map,List.length_take,List.length_drop]; omega
      obtain ⟨a1,g1⟩:=Vf (A:=(n.2.1.take k).map (fun v => (v.1,newC n.1 x v))) (B:=n.2.1.drop k) (k:=k) (by rw [l1]; exact hlt)
      obtain ⟨a2,g2⟩:=Vf (A:=(n.2.1.take k).map (newC n.1 x)) (B:=(n.2.1.drop k).map (·.2)) (k:=k) (by rw [l2]; exact hlt)
      rw [hB,hc,hav,hc]
      unfold Bp
      rw [Bool.not_true,cond_false,Ap (by rw [l1]; omega),g1,AR,Ap (by rw [l2]; omega),g2,AR,Ap (by rw [List.length_map,List.length_take,List.length_singleton]; unfold lim; omega),hW]
      unfold Jr
      rw [Int.toNat_natCast,take_snoc hlt,List.map_append]
      have p1:=eo (f:=fun v : Vw => (v.1,newC n.1 x v)) hlt
      have p2:=bV (f:=newC n.1 x) (g:=fun v : Vw => v.2) hlt
      rw [take_snoc hlt] at p1 p2
      simp only [cond_true]
      rw [p1]
      have e2 : (Py n.2.1[k].2 (vdR n.1 n.2.1[k].1 x).1).1 = newC n.1 x n.2.1[k]:=rfl
      rw [e2,p2]
      simp only [List.map_append]
      rfl
    ·have hkl : k = n.2.1.length:=by omega
     left
     refine ⟨_,rfl,fun rec => ?_⟩
     subst hkl
     rw [List.take_length] at hall
     simp only [BO]
     rw [AG,cond_false,hall,List.take_length,List.drop_length]
     simp) fz (n.2.1,n.2.2,([] : List Cnt),0) ⟨0,Nat.zero_le _,by rw [List.take_zero,List.drop_zero,<- f3]; rfl,rfl⟩ (by unfold fz; simp only; omega)
   rw [e,AR,ho]
   cases n.2.1.all (Qk n.1 x) <;> rfl
end
end Go.Proofs.YtpcbnmcfplioeaaGreat
