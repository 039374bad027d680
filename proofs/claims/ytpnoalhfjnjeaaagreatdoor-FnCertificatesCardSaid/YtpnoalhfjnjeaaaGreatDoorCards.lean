/-
  DERIVED. GIVEN WITH THE SEED: THE CARDS: each row of YtpnoalhfjnjeaaaGreatDoorRows.lean that lists a variable, with what it lists TIED to the program's text (the seventh form; the later family's looks); each row that meets fmt, with fmt's text TOLD by the authors' own Lean function (tested against real Go, not proved from fmt's source: count such statements apart). THE CARD IS WHAT COUNTS. Prove the row's statement (the work); the ties are given (YtpnoalhfjnjeaaaGreatDoorTie.lean); close each card by the builder's one call (the guide's Derived/Test/ToyasCard.lean, 'card_holds'). Laid BY PROGRAM, IN A SANDBOX (cutbox-door.mjs). By AI agents, Wed Nov 11 2026. No macro, syntax, notation, axiom, sorry.
-/
import Derived.Test.YtpnoalhfjnjeaaaGreatDoorRows
import GoSem.ClaimSeven
namespace Go.Proofs.YtpnoalhfjnjeaaaGreatDoor
namespace Rows

/-- THE TIED CARD OF 'laws.FnCertificates'. -/
def fnCertificatesCard : Claim7 := { stood := { row := fnCertificatesRow, standIns := [], harness := (true, "023681f3e0a434e6cb29f59820745bfb92164894aa4d70a3a140fbfde1acf3a7"), looks := false }, kinds := [], alts := [], laidByText := true, laidKinds := [.data], laidTests := true, laidLooks := .later }
def FnCertificatesCardSaid : Prop := Claim7.holds Tryz.pinned (.plain (OpenSpec.ofChange fnCertificatesSpec)) fnCertificatesCard

/-- THE SECOND FORM's CARD OF 'laws.FnCertificates'. -/
def fnCertificatesUptoCard : Claim7 := { stood := { row := fnCertificatesUptoRow, standIns := [], harness := (true, "023681f3e0a434e6cb29f59820745bfb92164894aa4d70a3a140fbfde1acf3a7"), looks := false }, kinds := [], alts := [], laidByText := true, laidKinds := [.data], laidTests := true, laidLooks := .later }
def FnCertificatesUptoCardSaid : Prop := Claim7.holds Tryz.pinned (.plain (OpenSpec.upto fnCertificatesSpec)) fnCertificatesUptoCard
end Rows
end Go.Proofs.YtpnoalhfjnjeaaaGreatDoor
