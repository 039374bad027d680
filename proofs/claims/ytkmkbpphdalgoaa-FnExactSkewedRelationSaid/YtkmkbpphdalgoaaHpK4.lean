/-
  The laws' copies, comparisons and size checks on typed data, printed by genlaw.py. No conditions.
-/
import Derived.Test.YtkmkbpphdalgoaaHlK4
import Derived.Test.YtkmkbpphdalgoaaTyK4
namespace Go.Proofs.Ytkmkbpphdalgoaa
open Go.RowKit
set_option linter.unusedVariables false
set_option linter.unusedSimpArgs false
def sm_IntS (a : List Int) : Prop := List.length a ≤ 1048576
theorem eq_IntS {a : List Int} (h : sm_IntS a) : laws_eqIntS a a = some true := by
  unfold laws_eqIntS
  rw [eq_loop (B := laws_eqIntS_B1 a a) (a := a) (g := (fun x y => some (x == y))) (fun _ _ => rfl) (fun _ _ => by simp) (sm_lim (show _ from h))]
  simp [obind]
def sm_IntSS (a : List (List Int)) : Prop := List.length a ≤ 1048576 ∧ ∀ e ∈ a, sm_IntS e
theorem eq_IntSS {a : List (List Int)} (h : sm_IntSS a) : laws_eqIntSS a a = some true := by
  unfold laws_eqIntSS
  rw [eq_loop (B := laws_eqIntSS_B1 a a) (a := a) (g := laws_eqIntS) (fun _ _ => rfl) (fun e he => eq_IntS (h.2 e he)) (sm_lim h.1)]
  simp [obind]
def sm_Relation (a : Int × (List (List Int))) : Prop := sm_IntSS a.2
theorem eq_Relation {a : Int × (List (List Int))} (h : sm_Relation a) : laws_eqRelation a a = some true := by
  simp [laws_eqRelation, eq_IntSS (h), obind]
theorem cb_IntS {a : List Int} (h : sm_IntS a) : ce30 a ≤ 1048576 := Nat.le_trans (cntL_le (C := 1048576) (B := 1) a (show _ from h) (fun x hx => (Nat.le_refl 1))) (by decide)
theorem cb_IntSS {a : List (List Int)} (h : sm_IntSS a) : ce22 a ≤ 1099511627776 := Nat.le_trans (cntL_le (C := 1048576) (B := 1048576) a (show _ from h.1) (fun x hx => (cb_IntS (h.2 x hx)))) (by decide)
theorem cb_Relation {a : Int × (List (List Int))} (h : sm_Relation a) : ce24 a ≤ 1099511627777 := by
  have b1 := cb_IntSS (a := a.2) h
  unfold ce24
  omega
theorem cbs_Relation {a : Int × (List (List Int))} (h : sm_Relation a) : cs24 a ≤ 1099511627776 := by
  have b1 := cb_IntSS (a := a.2) h
  unfold cs24
  omega
end Go.Proofs.Ytkmkbpphdalgoaa
