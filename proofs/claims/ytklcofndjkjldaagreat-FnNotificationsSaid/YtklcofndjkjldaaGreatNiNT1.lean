/-
 Changes of counted relations, views and notifiers: the program gives what the reference gives. On the printed functions; conditions: lengths, numbers in range.
-/
import Derived.Test.YtklcofndjkjldaaGreatNsNT1
namespace Go.Proofs.YtklcofndjkjldaaGreat
open Go.RowKit
set_option linter.unusedVariables false
set_option linter.unusedSimpArgs false
theorem d9 {c : Cnt} (h : GL c) : Et c = some (negC c):=by
 unfold Et
 rw [Pg h,AE]
 have hl:=Ed (body:=Cd c) (out:=c.2.2.map fun n => IntKind.i64.wrap (0 - n)) (fun k => ((c.2.2.take k).map (fun n => IntKind.i64.wrap (0 - n)) ++ c.2.2.drop k,(k : Int))) c.2.2.length (fun k hk rec => by
  have l1 : ((c.2.2.take k).map (fun n => IntKind.i64.wrap (0 - n)) ++ c.2.2.drop k).length = c.2.2.length:=by rw [List.length_append,List.length_map,List.length_take,List.length_drop]; omega
  have hg : AK ((c.2.2.take k).map (fun n => IntKind.i64.wrap (0 - n)) ++ c.2.2.drop k) (k : Int) = some c.2.2[k]:=by
   rw [Aj (by rw [l1]; exact hk),List.getElem_append_right (by rw [List.length_map,List.length_take]; omega)]
   simp only [List.length_map,List.length_take,List.getElem_drop]
   congr 2
   omega
  have p1:=Y5 (f:=fun n => IntKind.i64.wrap (0 - n)) hk
  simp only [Cd]
  rw [AF hk,cond_true,Ak (by rw [l1]; omega),hg,AE,AE,AO hk (At h.2)]
  unfold It
  rw [Int.toNat_natCast,p1]) (fun rec => by
  simp only [Cd]
  rw [Az,cond_false,List.take_length,List.drop_length,List.append_nil]) fz (Ii h.2)
 have hl' : Al (Cd c) fz (c.2.2,0) = some (c.2.2.map fun n => IntKind.i64.wrap (0 - n)):=hl
 rw [hl',AE]
 rfl
theorem RC : ∀ {K : List Row} {C : List Int},K.Nodup -> K.length = C.length -> ∀ i (hi : i < K.length) (hi' : i < C.length),CG (K.zip C) K[i] = C[i]
 | [],_,_,_,i,hi,_ => by cases hi
 | k :: K,[],_,h,_,_,_ => by cases h
 | k :: K,c :: C,hn,hl,i,hi,hi' => by
  obtain ⟨n1,n2⟩:=List.nodup_cons.1 hn
  rw [List.zip_cons_cons,CG]
  cases i with
  | zero =>
   have h0 : CG (K.zip C) k = 0:=LZ fun p hp e => n1 (by
    obtain ⟨a,b⟩:=p
    have:=(List.of_mem_zip hp).1
    have e : a = k:=e
    rw [e] at this; exact this)
   simp only [List.getElem_cons_zero]
   rw [if_pos trivial,h0]; omega
  | succ i =>
   have hi1 : i < K.length:=by simpa using hi
   have hi2 : i < C.length:=by simpa using hi'
   simp only [List.getElem_cons_succ]
   rw [if_neg (fun e => n1 (by rw [e]; exact List.getElem_mem hi1)),RC n2 (by simpa using hl) i hi1 hi2]; omega
theorem RM {c : Cnt} (h : GK c = true) : keysL (prC c) = c.2.1 ∧ (keysL (prC c)).map (CG (prC c)) = c.2.2:=by
 obtain ⟨f1,f2,-⟩:=B8 h
 have hs : Srt c.2.1:=((G7 (c.1,c.2.1)).1 f1).2.2.2
 have e1 : keysL (prC c) = c.2.1:=by
  unfold keysL
  rw [(OQ h).2.1]
  exact (Le hs fun z => Iff.rfl).symm
 refine ⟨e1,?_⟩
 rw [e1]
 refine List.ext_getElem (by rw [List.length_map]; exact f2) fun i h1 h2 => ?_
 rw [List.getElem_map]
 exact RC (SJ hs) f2 i (by rw [List.length_map] at h1; exact h1) h2
theorem WC {a b : Cnt} (ha : GK a = true) (hb : GK b = true) (he : a.1 = b.1) : Fi (a.1,keysL (Ga a b)) = !decide (4000 < ((keysL (Ga a b)).length : Int)):=by
 obtain ⟨-,a2,a3,a4,a5,a6,a7⟩:=B8 ha
 obtain ⟨-,b2,b3,b4,-,b6,b7⟩:=B8 hb
 rw [Bool.eq_iff_iff,G7,Bool.not_eq_true',decide_eq_false_iff_not]
 constructor
 ·rintro ⟨-,h,-⟩
  have h : (keysL (Ga a b)).length <= 4000:=h
  omega
 ·intro h
  refine ⟨⟨a5,a6⟩,(by show (keysL (Ga a b)).length <= 4000; omega),fun r hr => ?_,I7 _⟩
  have hr : r ∈ keysL (Ga a b):=hr
  rw [RN ha hb,EX] at hr
  rcases List.mem_append.1 hr with hr | hr
  ·exact a4 r hr
  ·rw [show ((a.1,keysL (Ga a b)) : Rln).1 = b.1 from he]; exact b4 r hr
theorem Ye {a b : Cnt} (h1 : GL a) (h2 : GL b) : DG a b = some (Lk a b):=by
 unfold DG Lk
 rw [Td h1,AE]
 cases ha : GK a with
 | false => rfl
 | true =>
  rw [Bool.not_true,cond_false,Td h2,AE]
  cases hb : GK b with
  | false => rfl
  | true =>
   obtain ⟨-,a2,a3,a4,a5,a6,a7⟩:=B8 ha
   obtain ⟨-,b2,b3,b4,-,b6,b7⟩:=B8 hb
   rw [Bool.not_true,cond_false]
   cases he : a.1 == b.1 with
   | false => rw [bne,he]; rfl
   | true =>
    have hab : a.1 = b.1:=by simpa using he
    rw [bne,he,Bool.not_true,cond_false,Pg h1,AE]
    have hok:=TB ha hb
    obtain ⟨q1,q2,q3⟩:=OQ hb
    obtain ⟨i1,i2⟩:=RM ha
    have hokk : ∀ k,OkL (prC a ++ (prC b).take k):=fun k => ⟨by
     have h3:=hok.1
     unfold Ga at h3
     rw [List.length_append] at h3
     rw [List.length_append,List.length_take]; omega,fun p hp => by
     refine hok.2 p ?_
     rcases List.mem_append.1 hp with hp | hp
     ·exact List.mem_append_left _ hp
     ·exact List.mem_append_right _ (List.mem_of_mem_take hp)⟩
    have hloop:=Ed (body:=Da b) (out:=WW a.1 (Ga a b)) (fun k => (a.1,keysL (prC a ++ (prC b).take k),(keysL (prC a ++ (prC b).take k)).map (CG (prC a ++ (prC b).take k)),(k : Int))) b.2.1.length (fun k hk rec => by
     have hk2 : k < b.2.2.length:=by omega
     have hk3 : k < (prC b).length:=by omega
     have e : (prC b)[k] = (b.2.1[k],b.2.2[k]):=List.getElem_zip
     have ht : GA (a.1,keysL (prC a ++ (prC b).take k),(keysL (prC a ++ (prC b).take k)).map (CG (prC a ++ (prC b).take k))) b.2.1[k] b.2.2[k] = _:=Uk (a:=a.1) (hokk k) (row:=b.2.1[k]) (n:=b.2.2[k]) (h2.1.2 _ (List.getElem_mem hk)) (b7 _ (List.getElem_mem hk2))
     simp only [Da]
     rw [AF hk,cond_true,Aj hk,AE,Aj hk2,AE,ht,AE,AO hk (At h2.1.1),take_snoc hk3,e,List.append_assoc]; rfl) (fun rec => by
     simp only [Da]
     rw [Az,cond_false,<- q1,List.take_length]; rfl) fz (Ii h2.1.1)
    have hloop' : Al (Da b) fz (a.1,a.2.1,a.2.2,0) = some (WW a.1 (Ga a b)):=by
     have e0 : prC a ++ (prC b).take 0 = prC a:=by rw [List.take_zero,List.append_nil]
     rw [e0,i2,i1] at hloop
     exact hloop
    rw [hloop',AE]
    show (Ad (Fm (a.1,AA 0 (keysL (Ga a b)),(keysL (Ga a b)).map (CG (Ga a b)))) _) = _
    rw [Qa hok,AE]
    simp only [WW]
    have hE : (AA 0 (keysL (Ga a b))).length = (keysL (Ga a b)).length:=Ib 0 _
    rw [Ak (Rj _),Pk,WC ha hb hab,hE]
    cases decide (4000 < ((keysL (Ga a b)).length : Int)) with
    | true => rfl
    | false =>
     rw [cond_false]
     have hv:=Td (N3 (a:=a.1) hok)
     show (Ad (AX (KE a.1 (Ga a b))) _) = _
     rw [hv,AE]
     cases GK (KE a.1 (Ga a b)) <;> rfl
section
variable {d : List Tbl} {q : Qry} {x : Dlt}
theorem hM (h : Iu d) (hd : d.length < lim) (hx : smD x) (hq : smQ q) : FSQ d q x = some (vdR d q x):=by
 obtain ⟨-,z1,z2,-,-⟩:=Zx h hq
 obtain ⟨-,y1,y2,-,-⟩:=Zx (L7 h hd hx) hq
 unfold FSQ vdR
 rw [ai h hd hx,AE,y1,AE,z1,AE]
 cases (En d x).2 with
 | false => rfl
 | true =>
  rw [Bool.not_true,cond_false,Bool.true_and]
  cases (zOf (En d x).1 q).2 with
  | false => rw [Bool.and_false]; rfl
  | true =>
   simp only [cond_true,Bool.not_true,cond_false]
   cases (zOf d q).2 with
   | false => rfl
   | true =>
    simp only [cond_true,Bool.not_true,cond_false]
    rw [d9 z2,AE,Ye y2 (NT z2),AE]; rfl
theorem dY {v : Vw} (h : Iu d) (hd : d.length < lim) (hx : smD x) (hv : smQ v.1 ∧ GL v.2) : FK v d x = some (avR v d x):=by
 unfold FK avR
 rw [hM h hd hx hv.1,AE,av h hv.1,AE]
 cases Qj d v with
 | false => rw [Bool.false_and,Bool.and_false]; rfl
 | true =>
  rw [Bool.not_true,cond_false,Bool.true_and]
  cases (vdR d v.1 x).2 with
  | false => rfl
  | true =>
   rw [Bool.not_true,cond_false,Ye hv.2 Tw,AE,Bool.true_and]
   cases (Lk v.2 (vdR d v.1 x).1).2 with
   | false => rfl
   | true => rw [Bool.not_true,cond_false,Rf hv.1,AE]; rfl
theorem Yj {n : Ntf} (h : N5 n) : Be n = some (ntB n):=by
 obtain ⟨b,e1,e2,-⟩:=Pv h
 rw [Vb h] at e1
 injection e1 with e1
 rw [e2,e1]
theorem iH {n : Ntf} (h : N5 n) (hd : n.1.length < lim) (hx : smD x) : E4 n x = some (ncR n x):=by
 unfold E4 ncR
 rw [ai h.1 hd hx,AE,Yj h,AE]
 cases hn : ntB n with
 | false => rw [Bool.not_false,cond_true]; unfold Ct; rw [cond_true,Ph h]; rfl
 | true =>
  obtain ⟨f1,f2,f3,f4⟩:=LG hn
  rw [Bool.not_true,cond_false,Bool.true_and]
  unfold Ct
  cases happ : (En n.1 x).2 with
  | false => rw [Bool.not_false,cond_true,Ph h]; rfl
  | true =>
   rw [Bool.not_true,cond_false,Bool.true_and,Ph h,AE]
   have hdl : n.2.2.length = n.2.1.length:=by rw [f3,List.length_map]
   obtain ⟨o,e,ho⟩:=F0 (B:=BM n x) (fun s => ∃ k : Nat,k <= n.2.1.length ∧ s = ((n.2.1.take k).map (fun v => (v.1,newC n.1 x v)) ++ n.2.1.drop k,(n.2.1.take k).map (newC n.1 x) ++ (n.2.1.drop k).map (·.2),(n.2.1.take k).map (fun v => (vdR n.1 v.1 x).1),(k : Int)) ∧ (n.2.1.take k).all (Mu n.1 x) = true) (fun s => n.2.1.length - s.2.2.2.toNat)
    (fun o => o = cond (n.2.1.all (Mu n.1 x)) (.inl (n.2.1.map (fun v => (v.1,newC n.1 x v)),n.2.1.map (newC n.1 x),n.2.1.map (fun v => (vdR n.1 v.1 x).1))) (.inr (n,[],false))) (fun s hs => by
    obtain ⟨k,hk,rfl,hall⟩:=hs
    by_cases hlt : k < n.2.1.length
    ·have hv:=h.2.1.2 _ (List.getElem_mem hlt)
     have hk2 : k < n.2.2.length:=by omega
     have hdk : n.2.2[k] = n.2.1[k].2:=by simp only [f3,List.getElem_map]
     have hok : Qj n.1 n.2.1[k] = true:=by
      unfold Qj
      rw [f4 _ (List.getElem_mem hlt),Gd.2 rfl]; rfl
     have hW : IntKind.i64.wrap ((k : Int) + 1) = ((k + 1 : Nat) : Int):=AO hlt (At h.2.1.1)
     have hav : (avR n.2.1[k] n.1 x) = cond (Mu n.1 x n.2.1[k]) ((n.2.1[k].1,newC n.1 x n.2.1[k]),true) (((0,[],[]),(0,[],[])),false):=by
      unfold avR Mu newC
      rw [hok,Bool.true_and]
     have hB : ∀ rec y1 y2 y3,BM n x rec (y1,y2,y3,(k : Int)) = Bq rec n y1 y2 y3 (k : Int) (vdR n.1 n.2.1[k].1 x) (avR n.2.1[k] n.1 x) (Lk n.2.1[k].2 (vdR n.1 n.2.1[k].1 x).1) (!Mu n.1 x n.2.1[k]):=fun rec y1 y2 y3 => by
      simp only [BM]
      rw [AF hlt,cond_true,Aj hlt,AE,hM h.1 hd hx hv.1,AE,dY h.1 hd hx hv,AE,Aj hk2,AE,hdk,Ye hv.2 Tw,AE,hav]
      unfold Mu
      cases (vdR n.1 n.2.1[k].1 x).2 with
      | false => rfl
      | true =>
       cases (Lk n.2.1[k].2 (vdR n.1 n.2.1[k].1 x).1).2 <;> rfl
     cases hc : Mu n.1 x n.2.1[k] with
     | false =>
      left
      refine ⟨_,rfl,fun rec => ?_⟩
      have hf : n.2.1.all (Mu n.1 x) = false:=by
       cases ha : n.2.1.all (Mu n.1 x) with
       | false => rfl
       | true => rw [List.all_eq_true.1 ha _ (List.getElem_mem hlt)] at hc; cases hc
      rw [hf,hB,hc]
      unfold Bq
      rw [Bool.not_false,cond_true,Ph h,AE]; rfl
     | true =>
      right
      refine ⟨_,⟨k + 1,hlt,rfl,by rw [take_snoc hlt,List.all_append,hall,List.all_cons,hc]; rfl⟩,by simp only [Int.toNat_natCast]; omega,fun rec => ?_⟩
      have l1 : ((n.2.1.take k).map (fun v => (v.1,newC n.1 x v)) ++ n.2.1.drop k).length = n.2.1.length:=by rw [List.length_append,List.length_map,List.length_take,List.length_drop]; omega
      have l2 : ((n.2.1.take k).map (newC n.1 x) ++ (n.2.1.drop k).map (·.2)).length = n.2.1.length:=by rw [List.length_append,List.length_map,List.length_map,List.length_take,List.length_drop]; omega
      obtain ⟨a1,g1⟩:=R6 (A:=(n.2.1.take k).map (fun v => (v.1,newC n.1 x v))) (B:=n.2.1.drop k) (k:=k) (by rw [l1]; exact hlt)
      obtain ⟨a2,g2⟩:=R6 (A:=(n.2.1.take k).map (newC n.1 x)) (B:=(n.2.1.drop k).map (·.2)) (k:=k) (by rw [l2]; exact hlt)
      rw [hB,hc,hav,hc]
      unfold Bq
      rw [Bool.not_true,cond_false,Ak (by rw [l1]; omega),g1,AE,Ak (by rw [l2]; omega),g2,AE,Ak (by rw [List.length_map,List.length_take,List.length_singleton]; unfold lim; omega),hW]
      unfold It
      rw [Int.toNat_natCast,take_snoc hlt,List.map_append]
      have p1:=Y5 (f:=fun v : Vw => (v.1,newC n.1 x v)) hlt
      have p2:=Xw (f:=newC n.1 x) (g:=fun v : Vw => v.2) hlt
      rw [take_snoc hlt] at p1 p2
      simp only [cond_true]
      rw [p1]
      have e2 : (Lk n.2.1[k].2 (vdR n.1 n.2.1[k].1 x).1).1 = newC n.1 x n.2.1[k]:=rfl
      rw [e2,p2]
      simp only [List.map_append]
      rfl
    ·have hkl : k = n.2.1.length:=by omega
     left
     refine ⟨_,rfl,fun rec => ?_⟩
     subst hkl
     rw [List.take_length] at hall
     simp only [BM]
     rw [Az,cond_false,hall,List.take_length,List.drop_length]
     simp) fz (n.2.1,n.2.2,([] : List Cnt),0) ⟨0,Nat.zero_le _,by rw [List.take_zero,List.drop_zero,<- f3]; rfl,rfl⟩ (by unfold fz; simp only; omega)
   rw [e,AE,ho]
   cases n.2.1.all (Mu n.1 x) <;> rfl
end
end Go.Proofs.YtklcofndjkjldaaGreat
