/-
 AppendSnapshot: the reference and the program give the same, and how much. No conditions.
-/
import Derived.Test.YtpcbnmcfplioeaaGreatApNC1
import Derived.Test.YtpcbnmcfplioeaaGreatSnNC1
import Derived.Test.YtpcbnmcfplioeaaGreatSmNC1
namespace Go.Proofs.YtpcbnmcfplioeaaGreat
open Go.RowKit
set_option linter.unusedVariables false
set_option linter.unusedSimpArgs false
theorem Xi {d : List Tbl} (h : dbB d = true) : d.length <= 6 ∧ ∀ t ∈ d,t.1.length <= 4 ∧ t.2.2.length <= 4000 ∧ ∀ r ∈ t.2.2,r.length <= 5:=by
 simp only [dbB,Bool.and_eq_true,decide_eq_true_eq,Bool.not_eq_true'] at h
 refine ⟨by omega,fun t ht => ?_⟩
 obtain ⟨k,hk,rfl⟩:=List.mem_iff_getElem.1 ht
 have hb:=He h.2 hk
 simp only [Ma,Bool.or_eq_false_iff,Bool.not_eq_false'] at hb
 obtain ⟨⟨⟨⟨h1,_⟩,h3⟩,_⟩,_⟩:=hb
 obtain ⟨h4,h5,h6,_⟩:=(HS _).1 h3
 refine ⟨?_,h5,fun r hr => by have:=(h6 r hr).1; omega⟩
 simp only [nmB,Bool.and_eq_true,btw,decide_eq_true_eq] at h1
 omega
theorem YJ {x : Dlt} (h : NK x) : smD x:=⟨CH h.1,Su h.2.1,Su h.2.2⟩
theorem fZ {d : List Tbl} (h : dbB d = true) : Ho d:=by
 obtain ⟨h1,h2⟩:=Xi h
 exact ⟨by omega,fun t ht => ⟨by have:=(h2 t ht).1; omega,by have:=(h2 t ht).2.1; omega,fun r hr => Nat.le_trans ((h2 t ht).2.2 r hr) (by omega)⟩⟩
theorem Y0 {α : Type} {f : α -> Nat} {M : Nat} : ∀ {l : List α},(∀ x ∈ l,f x <= M) -> tzL f l <= l.length * M
 | [],_ => Nat.zero_le _
 | x :: l,h => by
  have h1:=h x List.mem_cons_self
  have h2:=Y0 (l:=l) (fun y hy => h y (List.mem_cons_of_mem _ hy))
  rw [List.length_cons,Nat.add_mul,Nat.one_mul]
  show f x + tzL f l <= _
  omega
theorem oF {d : List Tbl} (h : dbB d = true) : GM d <= 200000:=by
 obtain ⟨h1,h2⟩:=Xi h
 have hr : ∀ t ∈ d,Lo t <= 24010:=by
  intro t ht
  obtain ⟨h3,h4,h5⟩:=h2 t ht
  have h6 : tzL Kw t.2.2 <= t.2.2.length * 5:=Y0 fun r hr => h5 r hr
  show List.length t.1 + (List.length t.2.2 + tzL Kw t.2.2) <= _
  omega
 have:=Y0 hr
 show List.length d + tzL Lo d <= _
 omega
end Go.Proofs.YtpcbnmcfplioeaaGreat
