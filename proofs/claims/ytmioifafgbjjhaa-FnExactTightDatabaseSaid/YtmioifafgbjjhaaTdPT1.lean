/-
  TightDatabase: the reference and the program give the same, and how much. No conditions.
-/
import Derived.Test.YtmioifafgbjjhaaTdT1
import Derived.Test.YtmioifafgbjjhaaSmT1
-- pure
namespace Go.Proofs.Ytmioifafgbjjhaa
open Go.RowKit
set_option linter.unusedVariables false
theorem sm_q4 {q : Qry} (h : sm_Query q) : smQ q := ⟨sm_lim h.1.1, fun a ha => ⟨sm_lim (h.1.2 a ha).1, sm_lim (h.1.2 a ha).2⟩, sm_lim h.2⟩
theorem db_sm {d : List Tbl} (h : dbB d = true) : sm_Database d := by
  obtain ⟨h1, h2⟩ := db_few h
  exact ⟨by omega, fun t ht => ⟨by have := (h2 t ht).1; omega, by have := (h2 t ht).2.1; omega, fun r hr => Nat.le_trans ((h2 t ht).2.2 r hr) (by omega)⟩⟩
theorem pure_TightDatabase {q : Qry} {nums : List Int} {b : Int} (s0 : sm_Query q) (s1 : sm_IntS nums) (k0 : ok53 q) (k1 : ok31 nums) (k2 : InI b) : ∃ r, spec_TightDatabase q nums b = some r ∧ impl_TightDatabase q nums b = some r ∧ sm_Database r.1 :=
  ⟨_, s_td (sm_q4 s0) (sm_lim s1), i_td (sm_q4 s0) (sm_lim s1), db_sm (td_ok (sm_q4 s0))⟩
end Go.Proofs.Ytmioifafgbjjhaa
