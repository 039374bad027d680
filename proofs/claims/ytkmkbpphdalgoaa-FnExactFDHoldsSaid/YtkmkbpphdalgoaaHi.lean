/-
  The law of IsValidHistory on typed functions. No conditions.
-/
import Derived.Test.YtkmkbpphdalgoaaHpH
import Derived.Test.YtkmkbpphdalgoaaVa
namespace Go.Proofs.Ytkmkbpphdalgoaa
open Go.RowKit
theorem sm_rows {l : List (List Int)} (h : sm_IntSS l) : smRows l := ⟨sm_lim h.1, fun r hr => sm_lim (h.2 r hr)⟩
theorem sm_db {d : List Tbl} (h : sm_Database d) : smDb d := ⟨sm_lim h.1, fun t ht => ⟨sm_lim (h.2 t ht).1, sm_rows (h.2 t ht).2⟩⟩
theorem sm_hist {x : Int × List (List Tbl)} (h : sm_History x) : smHist x := ⟨sm_lim h.1, fun d hd => sm_db (h.2 d hd)⟩
theorem law_IsValidHistory {a : Int × List (List Tbl)} (k : ok73 a) : laws_FnExactIsValidHistory a = some true := by
  unfold laws_FnExactIsValidHistory
  obtain ⟨v, e, p⟩ := sz_History k (left := 1048576) (by omega)
  rw [e]
  rcases p with p | ⟨_, p, s⟩
  · simp only [obind]; rw [decide_eq_true p]; rfl
  simp only [obind]
  rw [decide_eq_false (by omega : ¬ v < 0)]
  simp [to_History s, eq_History s, s_hist (sm_hist s), i_hist (sm_hist s)]
end Go.Proofs.Ytkmkbpphdalgoaa
