/-
  DERIVED. GIVEN WITH THE SEED: THE CARDS: each row of YthghcmmlmfgkbaaGreatDoorRows.lean that lists a variable, with what it lists TIED to the program's text (the seventh form; the later family's looks); each row that meets fmt, with fmt's text TOLD by the authors' own Lean function (tested against real Go, not proved from fmt's source: count such statements apart). THE CARD IS WHAT COUNTS. Prove the row's statement (the work); the ties are given (YthghcmmlmfgkbaaGreatDoorTie.lean); close each card by the builder's one call (the guide's Derived/Test/ToyasCard.lean, 'card_holds'). Laid BY PROGRAM, IN A SANDBOX (cutbox-door.mjs). By AI agents, Wed Nov 11 2026. No macro, syntax, notation, axiom, sorry.
-/
import Derived.Test.YthghcmmlmfgkbaaGreatDoorRows
import GoSem.ClaimSeven
namespace Go.Proofs.YthghcmmlmfgkbaaGreatDoor
namespace Rows

/-- THE TIED CARD OF 'laws.FnTightInstance'. -/
def fnTightInstanceCard : Claim7 := { stood := { row := fnTightInstanceRow, standIns := [], harness := (true, "38bcec462b16b2560fa99ce469759fc9e3562bbf17e318361d6482e6972be86d"), looks := false }, kinds := [], alts := [], laidByText := true, laidKinds := [.data], laidTests := true, laidLooks := .later }
def FnTightInstanceCardSaid : Prop := Claim7.holds Tryz.pinned (.plain (OpenSpec.ofChange fnTightInstanceSpec)) fnTightInstanceCard

/-- THE SECOND FORM's CARD OF 'laws.FnTightInstance'. -/
def fnTightInstanceUptoCard : Claim7 := { stood := { row := fnTightInstanceUptoRow, standIns := [], harness := (true, "38bcec462b16b2560fa99ce469759fc9e3562bbf17e318361d6482e6972be86d"), looks := false }, kinds := [], alts := [], laidByText := true, laidKinds := [.data], laidTests := true, laidLooks := .later }
def FnTightInstanceUptoCardSaid : Prop := Claim7.holds Tryz.pinned (.plain (OpenSpec.upto fnTightInstanceSpec)) fnTightInstanceUptoCard
end Rows
end Go.Proofs.YthghcmmlmfgkbaaGreatDoor
