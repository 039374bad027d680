/-
  DERIVED. GIVEN WITH THE SEED: THE CARDS: each row of YtkclaipnejgloaaDoorRows.lean that lists a variable, with what it lists TIED to the program's text (the seventh form; the later family's looks); each row that meets fmt, with fmt's text TOLD by the authors' own Lean function (tested against real Go, not proved from fmt's source: count such statements apart). THE CARD IS WHAT COUNTS. Prove the row's statement (the work); the ties are given (YtkclaipnejgloaaDoorTie.lean); close each card by the builder's one call (the guide's Derived/Test/ToyasCard.lean, 'card_holds'). Laid BY PROGRAM, IN A SANDBOX (cutbox-door.mjs). By AI agents, Wed Nov 11 2026. No macro, syntax, notation, axiom, sorry.
-/
import Derived.Test.YtkclaipnejgloaaDoorRows
import GoSem.ClaimSeven
namespace Go.Proofs.YtkclaipnejgloaaDoor
namespace Rows

/-- THE TIED CARD OF 'laws.FnExactIsValidCertificate'. -/
def fnExactIsValidCertificateCard : Claim7 := { stood := { row := fnExactIsValidCertificateRow, standIns := [], harness := (true, "e19e373961de73aac3ffccc462fb29ca4dc32373563ad9e65885ede64badd67c"), looks := false }, kinds := [], alts := [], laidByText := true, laidKinds := [.data], laidTests := true, laidLooks := .later }
def FnExactIsValidCertificateCardSaid : Prop := Claim7.holds Tryd.pinned (.plain (OpenSpec.ofChange fnExactIsValidCertificateSpec)) fnExactIsValidCertificateCard

/-- THE SECOND FORM's CARD OF 'laws.FnExactIsValidCertificate'. -/
def fnExactIsValidCertificateUptoCard : Claim7 := { stood := { row := fnExactIsValidCertificateUptoRow, standIns := [], harness := (true, "e19e373961de73aac3ffccc462fb29ca4dc32373563ad9e65885ede64badd67c"), looks := false }, kinds := [], alts := [], laidByText := true, laidKinds := [.data], laidTests := true, laidLooks := .later }
def FnExactIsValidCertificateUptoCardSaid : Prop := Claim7.holds Tryd.pinned (.plain (OpenSpec.upto fnExactIsValidCertificateSpec)) fnExactIsValidCertificateUptoCard
end Rows
end Go.Proofs.YtkclaipnejgloaaDoor
