/-
  DERIVED. GIVEN WITH THE SEED: THE CARDS: each row of YtkclaipnejgloaaGreatDoorRows.lean that lists a variable, with what it lists TIED to the program's text (the seventh form; the later family's looks); each row that meets fmt, with fmt's text TOLD by the authors' own Lean function (tested against real Go, not proved from fmt's source: count such statements apart). THE CARD IS WHAT COUNTS. Prove the row's statement (the work); the ties are given (YtkclaipnejgloaaGreatDoorTie.lean); close each card by the builder's one call (the guide's Derived/Test/ToyasCard.lean, 'card_holds'). Laid BY PROGRAM, IN A SANDBOX (cutbox-door.mjs). By AI agents, Wed Nov 11 2026. No macro, syntax, notation, axiom, sorry.
-/
import Derived.Test.YtkclaipnejgloaaGreatDoorRows
import GoSem.ClaimSeven
namespace Go.Proofs.YtkclaipnejgloaaGreatDoor
namespace Rows

/-- THE TIED CARD OF 'laws.FnExactIsCertificateFor'. -/
def fnExactIsCertificateForCard : Claim7 := { stood := { row := fnExactIsCertificateForRow, standIns := [], harness := (true, "1f955cc47786bf97de229e97ee737e43876b196f9efd44a36b875fef9d1ffe93"), looks := false }, kinds := [], alts := [], laidByText := true, laidKinds := [.data], laidTests := true, laidLooks := .later }
def FnExactIsCertificateForCardSaid : Prop := Claim7.holds Tryz.pinned (.plain (OpenSpec.ofChange fnExactIsCertificateForSpec)) fnExactIsCertificateForCard

/-- THE SECOND FORM's CARD OF 'laws.FnExactIsCertificateFor'. -/
def fnExactIsCertificateForUptoCard : Claim7 := { stood := { row := fnExactIsCertificateForUptoRow, standIns := [], harness := (true, "1f955cc47786bf97de229e97ee737e43876b196f9efd44a36b875fef9d1ffe93"), looks := false }, kinds := [], alts := [], laidByText := true, laidKinds := [.data], laidTests := true, laidLooks := .later }
def FnExactIsCertificateForUptoCardSaid : Prop := Claim7.holds Tryz.pinned (.plain (OpenSpec.upto fnExactIsCertificateForSpec)) fnExactIsCertificateForUptoCard
end Rows
end Go.Proofs.YtkclaipnejgloaaGreatDoor
