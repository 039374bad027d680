/-
  DERIVED. GIVEN WITH THE SEED: THE CARDS: each row of YtdnlfoelbfcmnaaGreatDoorRows.lean that lists a variable, with what it lists TIED to the program's text (the seventh form; the later family's looks); each row that meets fmt, with fmt's text TOLD by the authors' own Lean function (tested against real Go, not proved from fmt's source: count such statements apart). THE CARD IS WHAT COUNTS. Prove the row's statement (the work); the ties are given (YtdnlfoelbfcmnaaGreatDoorTie.lean); close each card by the builder's one call (the guide's Derived/Test/ToyasCard.lean, 'card_holds'). Laid BY PROGRAM, IN A SANDBOX (cutbox-door.mjs). By AI agents, Wed Nov 11 2026. No macro, syntax, notation, axiom, sorry.
-/
import Derived.Test.YtdnlfoelbfcmnaaGreatDoorRows
import GoSem.ClaimSeven
namespace Go.Proofs.YtdnlfoelbfcmnaaGreatDoor
namespace Rows

/-- THE TIED CARD OF 'laws.FnExactRunPlan'. -/
def fnExactRunPlanCard : Claim7 := { stood := { row := fnExactRunPlanRow, standIns := [], harness := (true, "3649ac1a8ea1bfad8339ee687356f2cb66c6e2d78a865d2d155c859834c86e12"), looks := false }, kinds := [], alts := [], laidByText := true, laidKinds := [.data], laidTests := true, laidLooks := .later }
def FnExactRunPlanCardSaid : Prop := Claim7.holds Tryz.pinned (.plain (OpenSpec.ofChange fnExactRunPlanSpec)) fnExactRunPlanCard

/-- THE SECOND FORM's CARD OF 'laws.FnExactRunPlan'. -/
def fnExactRunPlanUptoCard : Claim7 := { stood := { row := fnExactRunPlanUptoRow, standIns := [], harness := (true, "3649ac1a8ea1bfad8339ee687356f2cb66c6e2d78a865d2d155c859834c86e12"), looks := false }, kinds := [], alts := [], laidByText := true, laidKinds := [.data], laidTests := true, laidLooks := .later }
def FnExactRunPlanUptoCardSaid : Prop := Claim7.holds Tryz.pinned (.plain (OpenSpec.upto fnExactRunPlanSpec)) fnExactRunPlanUptoCard
end Rows
end Go.Proofs.YtdnlfoelbfcmnaaGreatDoor
