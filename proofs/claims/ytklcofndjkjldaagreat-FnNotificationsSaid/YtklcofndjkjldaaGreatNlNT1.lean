/-
 Notifications' law holds. Conditions: none.
-/
import Derived.Test.YtklcofndjkjldaaGreatWdNT1
import Derived.Test.YtklcofndjkjldaaGreatEvNT1
import Derived.Test.YtklcofndjkjldaaGreatNmNT1
import Derived.Test.YtklcofndjkjldaaGreatHpNT1
namespace Go.Proofs.YtklcofndjkjldaaGreat
open Go.RowKit
set_option linter.unusedVariables false
set_option linter.unusedSimpArgs false
theorem X5 {b : List Int} (h : b.length <= 1048576) : ∃ w x,C5 b = some (w,x) ∧ NtD w ∧ w.1.length <= 256 ∧ smD x:=by
 unfold C5
 obtain ⟨c,e,hc⟩:=bI h
 rw [e,AE]
 obtain ⟨w,c1,e1,⟨hw,hl⟩,hc1⟩:=Vv hc
 rw [e1,AE]
 simp only
 obtain ⟨x,c2,e2,hx,hc2⟩:=T0 hc1 hw.1.1 hl
 rw [e2]
 exact ⟨w,x,rfl,hw,hl,hx⟩
theorem N2 {α : Type} {f : α -> α -> Bool} (hf : ∀ x,f x x = true) (l : List α) : Oo f l l = true:=by
 unfold Oo
 rw [GM (fun i hi => by rw [AN hi,hf]; rfl)]
 simp
theorem NX (r : Rln) : Qv r r = true:=by
 unfold Qv
 rw [OS.2 rfl]; simp
theorem Rn (n : Ntf) : Wo n n = true:=by
 have hd : Zy n.1 n.1 = true:=by
  unfold Zy
  exact N2 (fun t => by rw [NX]; simp) n.1
 have hq : ∀ q : ZG,Qu q q = true:=fun q => by
  unfold Qu
  rw [N2 (fun t => by simp)]; simp
 unfold Wo
 rw [hd,GM (fun i hi => by rw [AN hi,hq,Gd.2 rfl]; rfl),GM (fun i hi => by rw [AN hi,Gd.2 rfl]; rfl)]
 simp
theorem YQ {n : Ntf} (h : N5 n) : ct n:=⟨h.1,⟨h.2.1.1,fun v hv => ⟨⟨(h.2.1.2 v hv).1.1,fun a ha => ((h.2.1.2 v hv).1.2.1 a ha).2,(h.2.1.2 v hv).1.2.2⟩,(h.2.1.2 v hv).2⟩⟩,h.2.2⟩
theorem Lb {b : List Int} (k : ib b) : Do b = some true:=by
 by_cases hb : 1048576 < b.length
 ·unfold Do LB
  rw [decide_eq_true (by omega : (1048576 : Int) < (b.length : Int))]
  rfl
 unfold Do LB
 rw [decide_eq_false (by omega : ¬ (1048576 : Int) < (b.length : Int))]
 simp only [Ad,cond_false]
 obtain ⟨w,x,e,hw,hl,hx⟩:=X5 (b:=b) (by omega)
 have hlt : w.1.length < lim:=by unfold lim; omega
 rw [e]
 simp only [iH hw.1 hlt hx,ii hw.1 hw.2 hlt hx,Yj hw.1,Vb hw.1,BEq.rfl,Bool.not_true,cond_false]
 have hne : (((List.length (ncR w x).2.1 : Int)) != (List.length (ncR w x).2.1 : Int)) = false:=by rw [bne_eq_false_iff_eq]
 rw [hne,cond_false]
 obtain ⟨g1,g2,g3⟩:=bG hw hlt hx
 cases hr : (ncR w x).2.2 with
 | false =>
  have er:=g3 hr
  rw [er]
  simp only [Bool.not_false,cond_true,Zg (YQ hw.1),Rn,Bool.not_true,AY,cond_false]
  rfl
 | true =>
  simp only [Bool.not_true,cond_false,AY,hr]
  have hnc : ncR w x = (((En w.1 x).1,w.2.1.map fun v => (v.1,newC w.1 x v),w.2.1.map (newC w.1 x)),w.2.1.map fun v => (vdR w.1 v.1 x).1,true) ∧ ntB w = true ∧ (En w.1 x).2 = true ∧ w.2.1.all (Mu w.1 x) = true:=by
   unfold ncR at hr ⊢
   cases hb : (ntB w && ((En w.1 x).2 && w.2.1.all (Mu w.1 x))) with
   | false => rw [hb] at hr; cases hr
   | true =>
    simp only [Bool.and_eq_true] at hb
    exact ⟨rfl,hb.1,hb.2.1,hb.2.2⟩
  obtain ⟨e0,b1,b2,b3⟩:=hnc
  obtain ⟨f1,f2,f3,f4⟩:=LG b1
  rw [e0] at g1
  have hnew : ∀ v ∈ w.2.1,zOf (En w.1 x).1 v.1 = (newC w.1 x v,true):=fun v hv => bH hw.1.1 hlt hx (hw.1.2.1.2 v hv).1 (f4 v hv) (List.all_eq_true.1 b3 v hv)
  have hyb : ntB ((En w.1 x).1,w.2.1.map (fun v => (v.1,newC w.1 x v)),w.2.1.map (newC w.1 x)) = true:=by
   refine gB (TE b2) (by show (w.2.1.map _).length <= 4; rw [List.length_map]; exact f2) ?_ (fun v hv => ?_)
   ·show w.2.1.map (newC w.1 x) = (w.2.1.map fun v => (v.1,newC w.1 x v)).map (·.2)
    rw [List.map_map]; rfl
   ·obtain ⟨u,hu,rfl⟩:=List.mem_map.1 hv
    exact hnew u hu
  rw [e0]
  simp only
  have hdl : w.2.2.length = w.2.1.length:=by rw [f3,List.length_map]
  have hloop:=Ed (body:=BH (w,x) (((En w.1 x).1,w.2.1.map (fun v => (v.1,newC w.1 x v)),w.2.1.map (newC w.1 x)),w.2.1.map (fun v => (vdR w.1 v.1 x).1),true) (((En w.1 x).1,w.2.1.map (fun v => (v.1,newC w.1 x v)),w.2.1.map (newC w.1 x)),w.2.1.map (fun v => (vdR w.1 v.1 x).1),true)) (out:=(.inl () : Sum Unit Bool)) (fun k => (k : Int)) w.2.1.length (fun k hk rec => by
   have hv:=List.getElem_mem hk
   have hsv:=hw.1.2.1.2 _ hv
   have hk2 : k < w.2.2.length:=by omega
   have hdk : w.2.2[k] = w.2.1[k].2:=by simp only [f3,List.getElem_map]
   have hc:=List.all_eq_true.1 b3 _ hv
   have hw1:=gI g1.1 hyb (k:=k) (by show k < (w.2.1.map _).length; rw [List.length_map]; exact hk)
   have hz:=hnew _ hv
   obtain ⟨r,v1,v2,v3⟩:=T7 (L7 hw.1.1 hlt hx) hsv.1 (by rw [hz])
   rw [hz] at v2
   have hw2 : Eg ((En w.1 x).1,w.2.1.map (fun v => (v.1,newC w.1 x v)),w.2.1.map (newC w.1 x)) (k : Int) = some (r,true):=by
    rw [hw1]
    show some (Ts ((w.2.1.map fun v => (v.1,newC w.1 x v))[k]'(by rw [List.length_map]; exact hk)).2) = _
    rw [List.getElem_map,v2]
   have gm : ∀ {β : Type} (f : Vw -> β),AK (w.2.1.map f) (k : Int) = some (f w.2.1[k]):=fun f => by rw [Aj (by rw [List.length_map]; exact hk),List.getElem_map]
   have hW : IntKind.i64.wrap ((k : Int) + 1) = ((k + 1 : Nat) : Int):=AO hk (At hw.1.2.1.1)
   have ea : Cl w.2.1[k].2 (vdR w.1 w.2.1[k].1 x).1 = some (Lk w.2.1[k].2 (vdR w.1 w.2.1[k].1 x).1):=WE hsv.2 Tw
   have en : (Lk w.2.1[k].2 (vdR w.1 w.2.1[k].1 x).1).1 = newC w.1 x w.2.1[k]:=rfl
   have hsm : GL (newC w.1 x w.2.1[k]):=RO
   have hll : (((List.length (w.2.1.map (newC w.1 x)) : Int)) != (List.length (w.2.1.map fun v => (vdR w.1 v.1 x).1) : Int)) = false:=by rw [bne_eq_false_iff_eq,List.length_map,List.length_map]
   unfold BH
   simp only
   rw [decide_eq_true (by rw [List.length_map]; omega),cond_true,Aj hk2,AE,hdk,gm,AE,ea,AE,hw2,AE,Aj hk,AE,v1,AE,AE,AE,Ko Tw,AE,Gd.2 rfl]
   simp only [Bool.not_true,cond_false]
   rw [Ry v3,AE,NX,Bool.not_true,cond_false,hll,cond_false,gm,AE,en,Ko hsm,AE,Gd.2 rfl,Bool.not_true,cond_false,hW]) (fun rec => by
   unfold BH
   simp only
   rw [decide_eq_false (by rw [List.length_map]; omega),cond_false]) fz (Ii hw.1.2.1.1)
  have hloop' : Al (BH (w,x) (((En w.1 x).1,w.2.1.map (fun v => (v.1,newC w.1 x v)),w.2.1.map (newC w.1 x)),w.2.1.map (fun v => (vdR w.1 v.1 x).1),true) (((En w.1 x).1,w.2.1.map (fun v => (v.1,newC w.1 x v)),w.2.1.map (newC w.1 x)),w.2.1.map (fun v => (vdR w.1 v.1 x).1),true)) fz 0 = some (.inl ()):=hloop
  rw [hloop']
  have hsn:=Vb g1.1
  rw [hyb] at hsn
  have hin:=Yj g1.1
  rw [hyb] at hin
  rw [hsn,hin]
  simp only [cond_true,BI,List.length_map,BEq.rfl]
  rfl
end Go.Proofs.YtklcofndjkjldaaGreat
