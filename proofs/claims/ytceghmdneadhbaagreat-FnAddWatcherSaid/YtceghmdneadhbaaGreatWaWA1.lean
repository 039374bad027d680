/-
 AddWatcher's law holds. Conditions: none.
-/
import Derived.Test.YtceghmdneadhbaaGreatWdWA1
import Derived.Test.YtceghmdneadhbaaGreatEvWA1
import Derived.Test.YtceghmdneadhbaaGreatEnWA1
import Derived.Test.YtceghmdneadhbaaGreatHpWA1
-- pure
namespace Go.Proofs.YtceghmdneadhbaaGreat
open Go.RowKit
set_option linter.unusedVariables false
set_option linter.unusedSimpArgs false
theorem draw_wa {b : List Int} (h : b.length <= 1048576) : ∃ w q,spec_DrawAddWatcher b = some (w,q) ∧ NtD w ∧ smQ q:=by
 unfold spec_DrawAddWatcher
 obtain ⟨c,e,hc⟩:=new_ok h
 rw [e,ob_s]
 obtain ⟨w,c1,e1,hw,hc1⟩:=watch_ok hc
 rw [e1,ob_s]
 simp only
 obtain ⟨q,c2,e2,hq,hc2⟩:=qany_ok hc1
 rw [e2]
 exact ⟨w,q,rfl,hw,hq.sm⟩
theorem sameL_selfW {α : Type} {f : α -> α -> Bool} (hf : ∀ x,f x x = true) (l : List α) : sameL f l l = true:=by
 unfold sameL
 rw [badAny_of (fun i hi => by rw [atB_lt hi,hf]; rfl)]
 simp
theorem relEq_selfW (r : Rln) : relEq r r = true:=by
 unfold relEq
 rw [rowsEq_iff.2 rfl]; simp
theorem ntfEq_self (n : Ntf) : ntfEq n n = true:=by
 have hd : dbEq n.1 n.1 = true:=by
  unfold dbEq
  exact sameL_selfW (fun t => by rw [relEq_selfW]; simp) n.1
 have hq : ∀ q : QryE,qryEq q q = true:=fun q => by
  unfold qryEq
  rw [sameL_selfW (fun t => by simp)]; simp
 unfold ntfEq
 rw [hd,badAny_of (fun i hi => by rw [atB_lt hi,hq,cntEq_iff.2 rfl]; rfl),badAny_of (fun i hi => by rw [atB_lt hi,cntEq_iff.2 rfl]; rfl)]
 simp
theorem ntf_of {n : Ntf} (h : smNtv n) : smNtf n:=⟨h.1,⟨h.2.1.1,fun v hv => ⟨⟨(h.2.1.2 v hv).1.1,fun a ha => ((h.2.1.2 v hv).1.2.1 a ha).2,(h.2.1.2 v hv).1.2.2⟩,(h.2.1.2 v hv).2⟩⟩,h.2.2⟩
theorem new_i {d : List Tbl} (h : smDb d) (hd : dbB d = true) : impl_NewNotifier d = some ((d,[],[]),true):=by
 unfold impl_NewNotifier
 simp only [i_db h,obind,i_copyD h,hd]
 rfl
theorem law_FnAddWatcher {b : List Int} (k : ok50 b) : laws_FnAddWatcher b = some true:=by
 by_cases hb : 1048576 < b.length
 ·unfold laws_FnAddWatcher laws_big
  rw [decide_eq_true (by omega : (1048576 : Int) < (b.length : Int))]
  rfl
 unfold laws_FnAddWatcher laws_big
 rw [decide_eq_false (by omega : ¬ (1048576 : Int) < (b.length : Int))]
 simp only [obind,cond_false]
 obtain ⟨w,q,e,hw,hq⟩:=draw_wa (b:=b) (by omega)
 rw [e]
 obtain ⟨r,e1,e2,hr⟩:=aw_same hw.1 hw.2 hq
 simp only [e1,e2,BEq.rfl,Bool.not_true,cond_false]
 rcases hr with rfl | ⟨z,z0,z1,z2,-,z3,z4,z5,z6,rfl⟩
 ·simp only [Bool.not_false,cond_true,s_ntfEq (ntf_of hw.1),ntfEq_self,Bool.not_true,laws_FnAddWatcher_J1,cond_false]
 ·simp only [Bool.not_true,cond_false,laws_FnAddWatcher_J1]
  have hzo : zOf w.1 q = (z,true):=by unfold zOf; rw [z0]; rfl
  obtain ⟨r,v1,v2,v3⟩:=eval_same hw.1.1 hq (by rw [hzo])
  rw [hzo] at v2
  obtain ⟨r',ea,ya,-⟩:=ntD_add hw hq
  rw [e1] at ea
  have er : r' = ((w.1,w.2.1 ++ [(q,z)],w.2.2 ++ [z]),true):=by injection ea with ea; exact ea.symm
  rw [er] at ya
  have hwb : ntB w = true:=by
   rw [s_ntB hw.1] at z6
   injection z6
  obtain ⟨f1,f2,f3,f4⟩:=nt_facts hwb
  have hyb : ntB (w.1,w.2.1 ++ [(q,z)],w.2.2 ++ [z]) = true:=by
   refine nt_of z3 (by show (w.2.1 ++ [(q,z)]).length <= 4; rw [List.length_append,List.length_singleton]; omega) ?_ (fun v hv => ?_)
   ·show w.2.2 ++ [z] = (w.2.1 ++ [(q,z)]).map (·.2)
    rw [List.map_append,f3]; rfl
   ·rcases List.mem_append.1 hv with hv | hv
    ·exact f4 v hv
    ·rw [List.mem_singleton] at hv; subst hv; exact hzo
  have hlen : (w.2.1 ++ [(q,z)]).length = w.2.1.length + 1:=by rw [List.length_append,List.length_singleton]
  have hwr:=wr_at ya.1 hyb (k:=w.2.1.length) (by show w.2.1.length < (w.2.1 ++ [(q,z)]).length; omega)
  have hat : (w.2.1 ++ [(q,z)])[w.2.1.length]'(by omega) = (q,z):=by simp
  have hwr' : impl_WatcherRows (w.1,w.2.1 ++ [(q,z)],w.2.2 ++ [z]) (w.2.1.length : Int) = some (r,true):=by
   rw [hwr]
   show some (rowsB ((w.2.1 ++ [(q,z)])[w.2.1.length]'(by omega)).2) = _
   rw [hat,v2]
  have hsn:=s_ntB ya.1
  rw [hyb] at hsn
  have hie:=i_ntfEq (b:=(w.1,w.2.1 ++ [(q,z)],w.2.2 ++ [z])) (ntf_of ya.1)
  rw [ntfEq_self] at hie
  have hl2 : ((List.length (w.2.1 ++ [(q,z)]) : Int) == IntKind.i64.wrap ((List.length w.2.1 : Int) + 1)) = true:=by
   rw [wrap_in (by omega),beq_iff_eq]; omega
  simp only [hwr',v1,new_i hw.1.1 z3,obind,cond_true,s_relEq v3,relEq_selfW,hl2,hsn,hie,laws_FnAddWatcher_J2]
  rfl
end Go.Proofs.YtceghmdneadhbaaGreat
