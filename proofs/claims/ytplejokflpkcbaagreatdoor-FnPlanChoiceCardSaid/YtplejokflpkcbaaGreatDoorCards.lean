/-
  DERIVED. GIVEN WITH THE SEED: THE CARDS: each row of YtplejokflpkcbaaGreatDoorRows.lean that lists a variable, with what it lists TIED to the program's text (the seventh form; the later family's looks); each row that meets fmt, with fmt's text TOLD by the authors' own Lean function (tested against real Go, not proved from fmt's source: count such statements apart). THE CARD IS WHAT COUNTS. Prove the row's statement (the work); the ties are given (YtplejokflpkcbaaGreatDoorTie.lean); close each card by the builder's one call (the guide's Derived/Test/ToyasCard.lean, 'card_holds'). Laid BY PROGRAM, IN A SANDBOX (cutbox-door.mjs). By AI agents, Wed Nov 11 2026. No macro, syntax, notation, axiom, sorry.
-/
import Derived.Test.YtplejokflpkcbaaGreatDoorRows
import GoSem.ClaimSeven
namespace Go.Proofs.YtplejokflpkcbaaGreatDoor
namespace Rows

/-- THE TIED CARD OF 'laws.FnPlanChoice'. -/
def fnPlanChoiceCard : Claim7 := { stood := { row := fnPlanChoiceRow, standIns := [], harness := (true, "0853d497552fe86f6b84e1e4e9ce3d49899b5f3d57ddb58ea0da01e9864844b8"), looks := false }, kinds := [], alts := [], laidByText := true, laidKinds := [.data], laidTests := true, laidLooks := .later }
def FnPlanChoiceCardSaid : Prop := Claim7.holds Tryz.pinned (.plain (OpenSpec.ofChange fnPlanChoiceSpec)) fnPlanChoiceCard

/-- THE SECOND FORM's CARD OF 'laws.FnPlanChoice'. -/
def fnPlanChoiceUptoCard : Claim7 := { stood := { row := fnPlanChoiceUptoRow, standIns := [], harness := (true, "0853d497552fe86f6b84e1e4e9ce3d49899b5f3d57ddb58ea0da01e9864844b8"), looks := false }, kinds := [], alts := [], laidByText := true, laidKinds := [.data], laidTests := true, laidLooks := .later }
def FnPlanChoiceUptoCardSaid : Prop := Claim7.holds Tryz.pinned (.plain (OpenSpec.upto fnPlanChoiceSpec)) fnPlanChoiceUptoCard
end Rows
end Go.Proofs.YtplejokflpkcbaaGreatDoor
