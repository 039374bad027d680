/-
  The law of TightRowCount on typed functions. No conditions.
-/
import Derived.Test.YtkmkbpphdalgoaaHpQ
import Derived.Test.YtkmkbpphdalgoaaTi
namespace Go.Proofs.Ytkmkbpphdalgoaa
open Go.RowKit
set_option linter.unusedSimpArgs false
set_option linter.unusedVariables false
theorem sm_q {q : Qry} (h : sm_Query q) : smQ q := ⟨sm_lim h.1.1, fun a ha => ⟨sm_lim (h.1.2 a ha).1, sm_lim (h.1.2 a ha).2⟩, sm_lim h.2⟩
theorem law_TightRowCount {q : Qry} {nums : List Int} {b : Int} (k : ok50 q) (kn : ok30 nums) (kb : InI b) : laws_FnExactTightRowCount q nums b = some true := by
  unfold laws_FnExactTightRowCount
  by_cases hl : (1048576 : Int) < (nums.length : Int)
  · rw [decide_eq_true hl]; rfl
  rw [decide_eq_false hl, cond_false]
  have hn : nums.length ≤ 1048576 := by omega
  obtain ⟨v, e, p⟩ := sz_Query k (left := 1048576) (by omega)
  rw [e]
  rcases p with p | ⟨p1, p, s⟩
  · simp only [obind]; rw [decide_eq_true p]; rfl
  simp only [obind]
  rw [decide_eq_false (by omega : ¬ v < 0)]
  simp [to_Query s, eq_Query s, to_IntS (show sm_IntS nums from hn), eq_IntS (show sm_IntS nums from hn), s_tight (sm_q s) (sm_lim hn), i_tight (sm_q s) (sm_lim hn)]
end Go.Proofs.Ytkmkbpphdalgoaa
