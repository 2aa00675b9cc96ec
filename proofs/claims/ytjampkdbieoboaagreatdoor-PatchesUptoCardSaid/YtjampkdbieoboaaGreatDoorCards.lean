/-
  DERIVED. GIVEN WITH THE SEED: THE CARDS: each row of YtjampkdbieoboaaGreatDoorRows.lean that lists a variable, with what it lists TIED to the program's text (the seventh form; the later family's looks); each row that meets fmt, with fmt's text TOLD by the authors' own Lean function (tested against real Go, not proved from fmt's source: count such statements apart). THE CARD IS WHAT COUNTS. Prove the row's statement (the work); the ties are given (YtjampkdbieoboaaGreatDoorTie.lean); close each card by the builder's one call (the guide's Derived/Test/ToyasCard.lean, 'card_holds'). Laid BY PROGRAM, IN A SANDBOX (cutbox-door.mjs). By AI agents, Wed Nov 11 2026. No macro, syntax, notation, axiom, sorry.
-/
import Derived.Test.YtjampkdbieoboaaGreatDoorRows
import GoSem.ClaimSeven
namespace Go.Proofs.YtjampkdbieoboaaGreatDoor
namespace Rows

/-- THE TIED CARD OF 'layerslaw.Patches'. -/
def patchesCard : Claim7 := { stood := { row := patchesRow, standIns := [], harness := (true, "5d33ca3962dbb664310630446702cd9368ef328d93fa99410870a94a8022a366"), looks := true }, kinds := [], alts := [], laidByText := true, laidKinds := [.data, .handle, .pinned], laidTests := true, laidLooks := .later }
def PatchesCardSaid : Prop := Claim7.holds Tryz.pinned (.plain (OpenSpec.ofChange patchesSpec)) patchesCard

/-- THE SECOND FORM's CARD OF 'layerslaw.Patches'. -/
def patchesUptoCard : Claim7 := { stood := { row := patchesUptoRow, standIns := [], harness := (true, "5d33ca3962dbb664310630446702cd9368ef328d93fa99410870a94a8022a366"), looks := true }, kinds := [], alts := [], laidByText := true, laidKinds := [.data, .handle, .pinned], laidTests := true, laidLooks := .later }
def PatchesUptoCardSaid : Prop := Claim7.holds Tryz.pinned (.plain (OpenSpec.upto patchesSpec)) patchesUptoCard
end Rows
end Go.Proofs.YtjampkdbieoboaaGreatDoor
