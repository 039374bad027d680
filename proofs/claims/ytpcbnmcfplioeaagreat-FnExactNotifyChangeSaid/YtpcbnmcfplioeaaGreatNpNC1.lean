/-
 NotifyChange: the reference and the program give the same. No conditions.
-/
import Derived.Test.YtpcbnmcfplioeaaGreatNiNC1
import Derived.Test.YtpcbnmcfplioeaaGreatVnPNC1
import Derived.Test.YtpcbnmcfplioeaaGreatAsNC1
namespace Go.Proofs.YtpcbnmcfplioeaaGreat
open Go.RowKit
set_option linter.unusedVariables false
theorem SI {α : Type} {f : α -> Nat} {M : Nat} : ∀ {l : List α},(∀ x ∈ l,f x <= M) -> tzL f l <= l.length * M
 | [],_ => by simp [tzL]
 | x :: l,h => by
  have h1:=h x (List.mem_cons_self ..)
  have h2:=SI (l:=l) fun y hy => h y (List.mem_cons_of_mem _ hy)
  rw [tzL,List.length_cons,Nat.add_mul,Nat.one_mul]
  omega
theorem Y1 {α β : Type} {f : α -> Nat} {g : β -> Nat} {p : α -> β} {M : Nat} : ∀ {l : List α},(∀ x ∈ l,g (p x) <= f x + M) -> tzL g (l.map p) <= tzL f l + l.length * M
 | [],_ => by simp [tzL]
 | x :: l,h => by
  have h1:=h x (List.mem_cons_self ..)
  have h2:=Y1 (l:=l) fun y hy => h y (List.mem_cons_of_mem _ hy)
  rw [List.map_cons,tzL,tzL,List.length_cons,Nat.add_mul,Nat.one_mul]
  omega
theorem Jl {c : Cnt} (h : H2 c = true) : Ci c ∧ AV c <= 40000:=by
 obtain ⟨-,f2,f3,f4,f5,f6,-⟩:=Db h
 have hr : ∀ r ∈ c.2.1,r.length <= 5:=fun r hr => by have:=(f4 r hr).1; omega
 refine ⟨⟨⟨by omega,fun r hr' => by have:=hr r hr'; show r.length <= 1048576; omega⟩,by show c.2.2.length <= 1048576; omega⟩,?_⟩
 have:=SI (f:=Kw) (M:=5) hr
 show (c.2.1.length + tzL Kw c.2.1) + c.2.2.length <= 40000
 omega
theorem Ox {n : Ntf} {x : Dlt} (s0 : Hp n) (s1 : NK x) (k0 : lp n) (k1 : lq x) : ∃ r,DW n x = some r ∧ CN n x = some r ∧ Hp r.1 ∧ CX r.2.1 ∧ (Hr r.1 <= Hr n + 600000 ∧ FK r.2.1 <= 200000):=by
 have hd : n.1.length < lim:=by have:=s0.1.1; unfold lim; omega
 refine ⟨ncR n x,pX (cg s0) ⟨fun v hv => (k0.2.1.2 v hv).2.2.2.2,fun c hc => (k0.2.2.2 c hc).2.2.2⟩ hd (YJ s1),pD (cg s0) hd (YJ s1),?_⟩
 unfold ncR
 cases hb : (ntB n && ((I8 n.1 x).2 && n.2.1.all (Qk n.1 x))) with
 | false => exact ⟨s0,⟨Nat.zero_le _,fun c hc => by cases hc⟩,by show Hr n <= _; omega,Nat.zero_le _⟩
 | true =>
  simp only [Bool.and_eq_true] at hb
  obtain ⟨b1,b2,b3⟩:=hb
  obtain ⟨f1,f2,f3,f4⟩:=Sf b1
  have hz : ∀ v ∈ n.2.1,H2 (newC n.1 x v) = true ∧ H2 (vdR n.1 v.1 x).1 = true:=fun v hv => by
   have:=List.all_eq_true.1 b3 v hv
   unfold Qk at this
   rw [Bool.and_eq_true] at this
   have h2:=WK this.2
   exact ⟨h2.2.2.2.1,h2.2.1⟩
  have hdb:=fQ b2
  rw [cond_true]
  refine ⟨⟨fZ hdb,⟨by show (n.2.1.map fun v => (v.1,newC n.1 x v)).length <= 1048576; rw [List.length_map]; omega,fun v hv => ?_⟩,by show (n.2.1.map (newC n.1 x)).length <= 1048576; rw [List.length_map]; omega,fun c hc => ?_⟩,⟨by show (n.2.1.map fun v => (vdR n.1 v.1 x).1).length <= 1048576; rw [List.length_map]; omega,fun c hc => ?_⟩,?_,?_⟩
  ·obtain ⟨u,hu,rfl⟩:=List.mem_map.1 hv; exact ⟨(s0.2.1.2 u hu).1,(Jl (hz u hu).1).1⟩
  ·obtain ⟨u,hu,rfl⟩:=List.mem_map.1 hc; exact (Jl (hz u hu).1).1
  ·obtain ⟨u,hu,rfl⟩:=List.mem_map.1 hc; exact (Jl (hz u hu).2).1
  ·have t1:=oF hdb
   have t2:=Y1 (f:=Lp) (g:=Lp) (p:=fun v : Vw => (v.1,newC n.1 x v)) (M:=40000) (l:=n.2.1) (fun v hv => by
    have:=(Jl (hz v hv).1).2
    show Ln v.1 + AV (newC n.1 x v) <= (Ln v.1 + AV v.2) + 40000
    omega)
   have t3:=SI (f:=AV) (M:=40000) (l:=n.2.1.map (newC n.1 x)) (fun c hc => by
    obtain ⟨u,hu,rfl⟩:=List.mem_map.1 hc
    exact (Jl (hz u hu).1).2)
   rw [List.length_map] at t3
   show GM (I8 n.1 x).1 + ((n.2.1.map fun v => (v.1,newC n.1 x v)).length + tzL Lp (n.2.1.map fun v => (v.1,newC n.1 x v))) + ((n.2.1.map (newC n.1 x)).length + tzL AV (n.2.1.map (newC n.1 x))) <= (GM n.1 + (n.2.1.length + tzL Lp n.2.1) + (n.2.2.length + tzL AV n.2.2)) + 600000
   rw [List.length_map,List.length_map]
   omega
  ·have t3:=SI (f:=AV) (M:=40000) (l:=n.2.1.map fun v => (vdR n.1 v.1 x).1) (fun c hc => by
    obtain ⟨u,hu,rfl⟩:=List.mem_map.1 hc
    exact (Jl (hz u hu).2).2)
   rw [List.length_map] at t3
   show (n.2.1.map fun v => (vdR n.1 v.1 x).1).length + tzL AV (n.2.1.map fun v => (vdR n.1 v.1 x).1) <= 200000
   rw [List.length_map]
   omega
end Go.Proofs.YtpcbnmcfplioeaaGreat
