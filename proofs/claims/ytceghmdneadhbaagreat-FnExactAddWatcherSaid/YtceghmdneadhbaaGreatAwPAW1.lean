/-
 AddWatcher: the reference and the program give the same. No conditions.
-/
import Derived.Test.YtceghmdneadhbaaGreatAwAW1
import Derived.Test.YtceghmdneadhbaaGreatVnPAW1
-- pure
namespace Go.Proofs.YtceghmdneadhbaaGreat
open Go.RowKit
set_option linter.unusedVariables false
theorem tzL_leW {α : Type} {f : α -> Nat} {M : Nat} : ∀ {l : List α}, (∀ x ∈ l, f x <= M) -> tzL f l <= l.length * M
 | [], _ => by simp [tzL]
 | x :: l, h => by
  have h1 := h x (List.mem_cons_self ..)
  have h2 := tzL_leW (l := l) fun y hy => h y (List.mem_cons_of_mem _ hy)
  rw [tzL, List.length_cons, Nat.add_mul, Nat.one_mul]
  omega
theorem cnt_small {c : Cnt} (h : cntB c = true) : sm_CountedRelation c ∧ tz_CountedRelation c <= 40000 := by
 obtain ⟨-, f2, f3, f4, f5, f6, -⟩ := cnt_facts h
 have hr : ∀ r ∈ c.2.1, r.length <= 5 := fun r hr => by have := (f4 r hr).1; omega
 refine ⟨⟨⟨by omega, fun r hr' => by have := hr r hr'; show r.length <= 1048576; omega⟩, by show c.2.2.length <= 1048576; omega⟩, ?_⟩
 have := tzL_leW (f := tz_IntS) (M := 5) hr
 show (c.2.1.length + tzL tz_IntS c.2.1) + c.2.2.length <= 40000
 omega
theorem pure_AddWatcher {n : Ntf} {q : Qry} (s0 : sm_Notifier n) (s1 : sm_Query q) (k0 : ok28 n) (k1 : ok64 q) : ∃ r, spec_AddWatcher n q = some r ∧ impl_AddWatcher n q = some r ∧ sm_Notifier r.1 ∧ tz_Notifier r.1 <= tz_Notifier n + tz_Query q + 100000 := by
 obtain ⟨r, e1, e2, h⟩ := aw_same (sm_ntv s0) ⟨fun v hv => (k0.2.1.2 v hv).2.2.2.2, fun c hc => (k0.2.2.2 c hc).2.2.2⟩ (sm_qV s1)
 refine ⟨r, e1, e2, ?_⟩
 rcases h with rfl | ⟨z, -, -, z1, -, -, z2, z3, -, rfl⟩
 ·exact ⟨s0, by show tz_Notifier n <= _; omega⟩
 ·obtain ⟨c1, c2⟩ := cnt_small z1
  refine ⟨⟨s0.1, ⟨by show (n.2.1 ++ [(q, z)]).length <= 1048576; rw [List.length_append, List.length_singleton]; omega, fun v hv => ?_⟩, ⟨by show (n.2.2 ++ [z]).length <= 1048576; rw [List.length_append, List.length_singleton]; omega, fun c hc => ?_⟩⟩, ?_⟩
  ·rcases List.mem_append.1 hv with hv | hv
   ·exact s0.2.1.2 v hv
   ·rw [List.mem_singleton] at hv; subst hv; exact ⟨s1, c1⟩
  ·rcases List.mem_append.1 hc with hc | hc
   ·exact s0.2.2.2 c hc
   ·rw [List.mem_singleton] at hc; subst hc; exact c1
  ·have e1 := tzL_app (f := tz_View) n.2.1 [(q, z)]
   have e2 := tzL_app (f := tz_CountedRelation) n.2.2 [z]
   have e3 : tzL tz_View [(q, z)] = tz_Query q + tz_CountedRelation z + 0 := rfl
   have e4 : tzL tz_CountedRelation [z] = tz_CountedRelation z + 0 := rfl
   show tz_Database n.1 + ((n.2.1 ++ [(q, z)]).length + tzL tz_View (n.2.1 ++ [(q, z)])) + ((n.2.2 ++ [z]).length + tzL tz_CountedRelation (n.2.2 ++ [z])) <= (tz_Database n.1 + (n.2.1.length + tzL tz_View n.2.1) + (n.2.2.length + tzL tz_CountedRelation n.2.2)) + tz_Query q + 100000
   rw [e1, e2, e3, e4, List.length_append, List.length_append, List.length_singleton, List.length_singleton]
   omega
end Go.Proofs.YtceghmdneadhbaaGreat
