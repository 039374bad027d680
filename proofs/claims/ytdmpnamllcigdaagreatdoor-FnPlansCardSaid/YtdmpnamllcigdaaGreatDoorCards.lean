/-
  DERIVED. GIVEN WITH THE SEED: THE CARDS: each row of YtdmpnamllcigdaaGreatDoorRows.lean that lists a variable, with what it lists TIED to the program's text (the seventh form; the later family's looks); each row that meets fmt, with fmt's text TOLD by the authors' own Lean function (tested against real Go, not proved from fmt's source: count such statements apart). THE CARD IS WHAT COUNTS. Prove the row's statement (the work); the ties are given (YtdmpnamllcigdaaGreatDoorTie.lean); close each card by the builder's one call (the guide's Derived/Test/ToyasCard.lean, 'card_holds'). Laid BY PROGRAM, IN A SANDBOX (cutbox-door.mjs). By AI agents, Wed Nov 11 2026. No macro, syntax, notation, axiom, sorry.
-/
import Derived.Test.YtdmpnamllcigdaaGreatDoorRows
import GoSem.ClaimSeven
namespace Go.Proofs.YtdmpnamllcigdaaGreatDoor
namespace Rows

/-- THE TIED CARD OF 'laws.FnPlans'. -/
def fnPlansCard : Claim7 := { stood := { row := fnPlansRow, standIns := [], harness := (true, "27fcdeb840ae08ad71ad6a44ccfeee68e4ea69506050454dcfe57b3eeb9df47f"), looks := false }, kinds := [], alts := [], laidByText := true, laidKinds := [.data], laidTests := true, laidLooks := .later }
def FnPlansCardSaid : Prop := Claim7.holds Tryz.pinned (.plain (OpenSpec.ofChange fnPlansSpec)) fnPlansCard

/-- THE TIED CARD OF 'laws.FnExactPlanAndEvaluate'. -/
def fnExactPlanAndEvaluateCard : Claim7 := { stood := { row := fnExactPlanAndEvaluateRow, standIns := [], harness := (true, "27fcdeb840ae08ad71ad6a44ccfeee68e4ea69506050454dcfe57b3eeb9df47f"), looks := false }, kinds := [], alts := [], laidByText := true, laidKinds := [.data], laidTests := true, laidLooks := .later }
def FnExactPlanAndEvaluateCardSaid : Prop := Claim7.holds Tryz.pinned (.plain (OpenSpec.ofChange fnExactPlanAndEvaluateSpec)) fnExactPlanAndEvaluateCard

/-- THE SECOND FORM's CARD OF 'laws.FnPlans'. -/
def fnPlansUptoCard : Claim7 := { stood := { row := fnPlansUptoRow, standIns := [], harness := (true, "27fcdeb840ae08ad71ad6a44ccfeee68e4ea69506050454dcfe57b3eeb9df47f"), looks := false }, kinds := [], alts := [], laidByText := true, laidKinds := [.data], laidTests := true, laidLooks := .later }
def FnPlansUptoCardSaid : Prop := Claim7.holds Tryz.pinned (.plain (OpenSpec.upto fnPlansSpec)) fnPlansUptoCard

/-- THE SECOND FORM's CARD OF 'laws.FnExactPlanAndEvaluate'. -/
def fnExactPlanAndEvaluateUptoCard : Claim7 := { stood := { row := fnExactPlanAndEvaluateUptoRow, standIns := [], harness := (true, "27fcdeb840ae08ad71ad6a44ccfeee68e4ea69506050454dcfe57b3eeb9df47f"), looks := false }, kinds := [], alts := [], laidByText := true, laidKinds := [.data], laidTests := true, laidLooks := .later }
def FnExactPlanAndEvaluateUptoCardSaid : Prop := Claim7.holds Tryz.pinned (.plain (OpenSpec.upto fnExactPlanAndEvaluateSpec)) fnExactPlanAndEvaluateUptoCard
end Rows
end Go.Proofs.YtdmpnamllcigdaaGreatDoor
