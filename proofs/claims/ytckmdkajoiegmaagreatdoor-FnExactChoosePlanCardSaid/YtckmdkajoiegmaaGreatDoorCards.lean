/-
  DERIVED. GIVEN WITH THE SEED: THE CARDS: each row of YtckmdkajoiegmaaGreatDoorRows.lean that lists a variable, with what it lists TIED to the program's text (the seventh form; the later family's looks); each row that meets fmt, with fmt's text TOLD by the authors' own Lean function (tested against real Go, not proved from fmt's source: count such statements apart). THE CARD IS WHAT COUNTS. Prove the row's statement (the work); the ties are given (YtckmdkajoiegmaaGreatDoorTie.lean); close each card by the builder's one call (the guide's Derived/Test/ToyasCard.lean, 'card_holds'). Laid BY PROGRAM, IN A SANDBOX (cutbox-door.mjs). By AI agents, Wed Nov 11 2026. No macro, syntax, notation, axiom, sorry.
-/
import Derived.Test.YtckmdkajoiegmaaGreatDoorRows
import GoSem.ClaimSeven
namespace Go.Proofs.YtckmdkajoiegmaaGreatDoor
namespace Rows

/-- THE TIED CARD OF 'laws.FnExactChoosePlan'. -/
def fnExactChoosePlanCard : Claim7 := { stood := { row := fnExactChoosePlanRow, standIns := [], harness := (true, "f03f0d3c9b89bf85df30bf8d93f573aa0aa558fa5899e456fc5fac8ed9f820d3"), looks := false }, kinds := [], alts := [], laidByText := true, laidKinds := [.data], laidTests := true, laidLooks := .later }
def FnExactChoosePlanCardSaid : Prop := Claim7.holds Tryz.pinned (.plain (OpenSpec.ofChange fnExactChoosePlanSpec)) fnExactChoosePlanCard

/-- THE TIED CARD OF 'laws.FnExactMakeCertificate'. -/
def fnExactMakeCertificateCard : Claim7 := { stood := { row := fnExactMakeCertificateRow, standIns := [], harness := (true, "f03f0d3c9b89bf85df30bf8d93f573aa0aa558fa5899e456fc5fac8ed9f820d3"), looks := false }, kinds := [], alts := [], laidByText := true, laidKinds := [.data], laidTests := true, laidLooks := .later }
def FnExactMakeCertificateCardSaid : Prop := Claim7.holds Tryz.pinned (.plain (OpenSpec.ofChange fnExactMakeCertificateSpec)) fnExactMakeCertificateCard

/-- THE SECOND FORM's CARD OF 'laws.FnExactChoosePlan'. -/
def fnExactChoosePlanUptoCard : Claim7 := { stood := { row := fnExactChoosePlanUptoRow, standIns := [], harness := (true, "f03f0d3c9b89bf85df30bf8d93f573aa0aa558fa5899e456fc5fac8ed9f820d3"), looks := false }, kinds := [], alts := [], laidByText := true, laidKinds := [.data], laidTests := true, laidLooks := .later }
def FnExactChoosePlanUptoCardSaid : Prop := Claim7.holds Tryz.pinned (.plain (OpenSpec.upto fnExactChoosePlanSpec)) fnExactChoosePlanUptoCard

/-- THE SECOND FORM's CARD OF 'laws.FnExactMakeCertificate'. -/
def fnExactMakeCertificateUptoCard : Claim7 := { stood := { row := fnExactMakeCertificateUptoRow, standIns := [], harness := (true, "f03f0d3c9b89bf85df30bf8d93f573aa0aa558fa5899e456fc5fac8ed9f820d3"), looks := false }, kinds := [], alts := [], laidByText := true, laidKinds := [.data], laidTests := true, laidLooks := .later }
def FnExactMakeCertificateUptoCardSaid : Prop := Claim7.holds Tryz.pinned (.plain (OpenSpec.upto fnExactMakeCertificateSpec)) fnExactMakeCertificateUptoCard
end Rows
end Go.Proofs.YtckmdkajoiegmaaGreatDoor
