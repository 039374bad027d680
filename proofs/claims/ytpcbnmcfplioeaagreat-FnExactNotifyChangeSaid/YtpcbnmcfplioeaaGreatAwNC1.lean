/-
 AddWatcher: the reference and the program give the same. On the printed functions; conditions: lengths, numbers in range.
-/
import Derived.Test.YtpcbnmcfplioeaaGreatVnNC1
import Derived.Test.YtpcbnmcfplioeaaGreatSnNC1
namespace Go.Proofs.YtpcbnmcfplioeaaGreat
open Go.RowKit
set_option linter.unusedVariables false
set_option linter.unusedSimpArgs false
def negC (c : Cnt) : Cnt:=(c.1,c.2.1,c.2.2.map fun n => IntKind.i64.wrap (0 - n))
theorem neg_neg {n : Int} (h : InI n) : IntKind.i64.wrap (0 - IntKind.i64.wrap (0 - n)) = n:=by
 obtain ⟨h1,h2⟩:=h
 by_cases e : n = -9223372036854775808
 ·subst e; decide
 ·rw [wrap_in (n:=0 - n) (by omega),wrap_in (by omega)]; omega
theorem kc {c : Cnt} (h : ∀ n ∈ c.2.2,InI n) : negC (negC c) = c:=by
 obtain ⟨a,r,l⟩:=c
 unfold negC
 simp only [List.map_map]
 have : l.map ((fun n => IntKind.i64.wrap (0 - n)) ∘ fun n => IntKind.i64.wrap (0 - n)) = l:=by
  have e:=List.map_congr_left (f:=(fun n => IntKind.i64.wrap (0 - n)) ∘ fun n => IntKind.i64.wrap (0 - n)) (g:=id) (l:=l) fun n hn => neg_neg (h n hn)
  rw [e,List.map_id]
 rw [this]
theorem Se {c : Cnt} (h : H1 c) : H1 (negC c):=⟨h.1,by show (c.2.2.map _).length <= lim; rw [List.length_map]; exact h.2⟩
theorem YB {c : Cnt} (h : H1 c) : Bz c = some (negC c):=by
 unfold Bz
 rw [TD (r:=(0,c.2.1)) h.1,AR,Gk (a:=c.2.2) (h:=fun n => IntKind.i64.wrap (0 - n)) h.2 (fun k hk rec => by
  simp only [EO]
  rw [AL hk,cond_true,Am hk,AR,Ap (by simp only [List.length_map,List.length_take,List.length_singleton]; have:=h.2; omega),AS hk (AA h.2)]) (fun rec y => by simp only [EO]; rw [AG,cond_false]),AR]
 rfl
theorem RP {c : Cnt} (h : H1 c) : Cy c = some c:=by
 unfold Cy
 rw [P5 h.1,AR,Lc h.2,AR]
def ntI (n : Ntf) : Prop:=(∀ v ∈ n.2.1,∀ x ∈ v.2.2.2,InI x) ∧ ∀ c ∈ n.2.2,∀ x ∈ c.2.2,InI x
theorem Yy {n : Ntf} (h : TH n) (hI : ntI n) : HE n = some n:=by
 unfold HE
 rw [Sn h.1,AR,Gk (a:=n.2.1) (h:=id) h.2.1.1 (fun k hk rec => by
  have hm:=List.getElem_mem hk
  obtain ⟨h1,h2⟩:=h.2.1.2 _ hm
  have e : IT n.2.1[k] = some n.2.1[k]:=by
   unfold IT
   rw [Yz h1,AR,YB h2,AR,YB (Se h2),AR,kc (hI.1 _ hm)]
  simp only [HW]
  rw [AL hk,cond_true,Am hk,AR,e,AR,Ap (by simp only [List.length_map,List.length_take,List.length_singleton]; have:=h.2.1.1; omega),AS hk (AA h.2.1.1)]; rfl) (fun rec y => by simp only [HW]; rw [AG,cond_false]),AR,Gk (a:=n.2.2) (h:=id) h.2.2.1 (fun k hk rec => by
  have hm:=List.getElem_mem hk
  have h2:=h.2.2.2 _ hm
  simp only [HX]
  rw [AL hk,cond_true,Am hk,AR,YB h2,AR,YB (Se h2),AR,kc (hI.2 _ hm),Ap (by simp only [List.length_map,List.length_take,List.length_singleton]; have:=h.2.2.1; omega),AS hk (AA h.2.2.1)]; rfl) (fun rec y => by simp only [HX]; rw [AG,cond_false]),AR]
 simp
theorem RQ {n : Ntf} (h : TH n) : CS n = some n:=by
 unfold CS
 rw [P4 h.1,AR,Gk (a:=n.2.1) (h:=id) h.2.1.1 (fun k hk rec => by
  have hm:=List.getElem_mem hk
  obtain ⟨h1,h2⟩:=h.2.1.2 _ hm
  have e : HH n.2.1[k] = some n.2.1[k]:=by
   unfold HH
   rw [Uq h1,AR,RP h2,AR]
  simp only [E5]
  rw [AL hk,cond_true,Am hk,AR,e,AR,Ap (by simp only [List.length_map,List.length_take,List.length_singleton]; have:=h.2.1.1; omega),AS hk (AA h.2.1.1)]; rfl) (fun rec y => by simp only [E5]; rw [AG,cond_false]),AR,Gk (a:=n.2.2) (h:=id) h.2.2.1 (fun k hk rec => by
  have hm:=List.getElem_mem hk
  simp only [E6]
  rw [AL hk,cond_true,Am hk,AR,RP (h.2.2.2 _ hm),AR,Ap (by simp only [List.length_map,List.length_take,List.length_singleton]; have:=h.2.2.1; omega),AS hk (AA h.2.2.1)]; rfl) (fun rec y => by simp only [E6]; rw [AG,cond_false]),AR]
 simp
end Go.Proofs.YtpcbnmcfplioeaaGreat
