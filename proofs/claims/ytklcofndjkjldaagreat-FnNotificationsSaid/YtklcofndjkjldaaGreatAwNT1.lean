/-
 AddWatcher: the reference and the program give the same. On the printed functions; conditions: lengths, numbers in range.
-/
import Derived.Test.YtklcofndjkjldaaGreatVnNT1
import Derived.Test.YtklcofndjkjldaaGreatSnNT1
namespace Go.Proofs.YtklcofndjkjldaaGreat
open Go.RowKit
set_option linter.unusedVariables false
set_option linter.unusedSimpArgs false
def negC (c : Cnt) : Cnt:=(c.1,c.2.1,c.2.2.map fun n => IntKind.i64.wrap (0 - n))
theorem neg_neg {n : Int} (h : InI n) : IntKind.i64.wrap (0 - IntKind.i64.wrap (0 - n)) = n:=by
 obtain ⟨h1,h2⟩:=h
 by_cases e : n = -9223372036854775808
 ·subst e; decide
 ·rw [wrap_in (n:=0 - n) (by omega),wrap_in (by omega)]; omega
theorem YL {c : Cnt} (h : ∀ n ∈ c.2.2,InI n) : negC (negC c) = c:=by
 obtain ⟨a,r,l⟩:=c
 unfold negC
 simp only [List.map_map]
 have : l.map ((fun n => IntKind.i64.wrap (0 - n)) ∘ fun n => IntKind.i64.wrap (0 - n)) = l:=by
  have e:=List.map_congr_left (f:=(fun n => IntKind.i64.wrap (0 - n)) ∘ fun n => IntKind.i64.wrap (0 - n)) (g:=id) (l:=l) fun n hn => neg_neg (h n hn)
  rw [e,List.map_id]
 rw [this]
theorem NT {c : Cnt} (h : GL c) : GL (negC c):=⟨h.1,by show (c.2.2.map _).length <= lim; rw [List.length_map]; exact h.2⟩
theorem Rx {c : Cnt} (h : GL c) : Ba c = some (negC c):=by
 unfold Ba
 rw [OT (r:=(0,c.2.1)) h.1,AE,Fu (a:=c.2.2) (h:=fun n => IntKind.i64.wrap (0 - n)) h.2 (fun k hk rec => by
  simp only [EE]
  rw [AF hk,cond_true,Aj hk,AE,Ak (by simp only [List.length_map,List.length_take,List.length_singleton]; have:=h.2; omega),AO hk (At h.2)]) (fun rec y => by simp only [EE]; rw [Az,cond_false]),AE]
 rfl
theorem Pg {c : Cnt} (h : GL c) : Cx c = some c:=by
 unfold Cx
 rw [Mk h.1,AE,JM h.2,AE]
def ntI (n : Ntf) : Prop:=(∀ v ∈ n.2.1,∀ x ∈ v.2.2.2,InI x) ∧ ∀ c ∈ n.2.2,∀ x ∈ c.2.2,InI x
theorem Rv {n : Ntf} (h : N5 n) (hI : ntI n) : Gn n = some n:=by
 unfold Gn
 rw [N1 h.1,AE,Fu (a:=n.2.1) (h:=id) h.2.1.1 (fun k hk rec => by
  have hm:=List.getElem_mem hk
  obtain ⟨h1,h2⟩:=h.2.1.2 _ hm
  have e : Ip n.2.1[k] = some n.2.1[k]:=by
   unfold Ip
   rw [Rw h1,AE,Rx h2,AE,Rx (NT h2),AE,YL (hI.1 _ hm)]
  simp only [HB]
  rw [AF hk,cond_true,Aj hk,AE,e,AE,Ak (by simp only [List.length_map,List.length_take,List.length_singleton]; have:=h.2.1.1; omega),AO hk (At h.2.1.1)]; rfl) (fun rec y => by simp only [HB]; rw [Az,cond_false]),AE,Fu (a:=n.2.2) (h:=id) h.2.2.1 (fun k hk rec => by
  have hm:=List.getElem_mem hk
  have h2:=h.2.2.2 _ hm
  simp only [HC]
  rw [AF hk,cond_true,Aj hk,AE,Rx h2,AE,Rx (NT h2),AE,YL (hI.2 _ hm),Ak (by simp only [List.length_map,List.length_take,List.length_singleton]; have:=h.2.2.1; omega),AO hk (At h.2.2.1)]; rfl) (fun rec y => by simp only [HC]; rw [Az,cond_false]),AE]
 simp
theorem Ph {n : Ntf} (h : N5 n) : CN n = some n:=by
 unfold CN
 rw [NF h.1,AE,Fu (a:=n.2.1) (h:=id) h.2.1.1 (fun k hk rec => by
  have hm:=List.getElem_mem hk
  obtain ⟨h1,h2⟩:=h.2.1.2 _ hm
  have e : Hp n.2.1[k] = some n.2.1[k]:=by
   unfold Hp
   rw [Rf h1,AE,Pg h2,AE]
  simp only [EV]
  rw [AF hk,cond_true,Aj hk,AE,e,AE,Ak (by simp only [List.length_map,List.length_take,List.length_singleton]; have:=h.2.1.1; omega),AO hk (At h.2.1.1)]; rfl) (fun rec y => by simp only [EV]; rw [Az,cond_false]),AE,Fu (a:=n.2.2) (h:=id) h.2.2.1 (fun k hk rec => by
  have hm:=List.getElem_mem hk
  simp only [EW]
  rw [AF hk,cond_true,Aj hk,AE,Pg (h.2.2.2 _ hm),AE,Ak (by simp only [List.length_map,List.length_take,List.length_singleton]; have:=h.2.2.1; omega),AO hk (At h.2.2.1)]; rfl) (fun rec y => by simp only [EW]; rw [Az,cond_false]),AE]
 simp
theorem TW {c : Cnt} (h : GK c = true) : ∀ x ∈ c.2.2,InI x:=fun x hx => by
 have:=(B8 h).2.2.2.2.2.2 x hx
 exact ⟨by omega,by omega⟩
end Go.Proofs.YtklcofndjkjldaaGreat
