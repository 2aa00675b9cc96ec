/-
  DERIVED. GIVEN WITH THE SEED: THE CARDS: each row of YtkooakadckjpkaaGreatDoorRows.lean that lists a variable, with what it lists TIED to the program's text (the seventh form; the later family's looks); each row that meets fmt, with fmt's text TOLD by the authors' own Lean function (tested against real Go, not proved from fmt's source: count such statements apart). THE CARD IS WHAT COUNTS. Prove the row's statement (the work); the ties are given (YtkooakadckjpkaaGreatDoorTie.lean); close each card by the builder's one call (the guide's Derived/Test/ToyasCard.lean, 'card_holds'). Laid BY PROGRAM, IN A SANDBOX (cutbox-door.mjs). By AI agents, Wed Nov 11 2026. No macro, syntax, notation, axiom, sorry.
-/
import Derived.Test.YtkooakadckjpkaaGreatDoorRows
import GoSem.ClaimSeven
namespace Go.Proofs.YtkooakadckjpkaaGreatDoor
namespace Rows

/-- THE TIED CARD OF 'layerslaw.Packs'. -/
def packsCard : Claim7 := { stood := { row := packsRow, standIns := [], harness := (true, "7a9c01429f6b7134000004d3e62d2bd8c1e9c1e5c60a6ab3fd208152041696c9"), looks := true }, kinds := [], alts := [], laidByText := true, laidKinds := [.data, .data, .data, .data, .handle, .pinned], laidTests := true, laidLooks := .later }
def PacksCardSaid : Prop := Claim7.holds Tryz.pinned (.plain (OpenSpec.ofChange packsSpec)) packsCard

/-- THE SECOND FORM's CARD OF 'layerslaw.Packs'. -/
def packsUptoCard : Claim7 := { stood := { row := packsUptoRow, standIns := [], harness := (true, "7a9c01429f6b7134000004d3e62d2bd8c1e9c1e5c60a6ab3fd208152041696c9"), looks := true }, kinds := [], alts := [], laidByText := true, laidKinds := [.data, .data, .data, .data, .handle, .pinned], laidTests := true, laidLooks := .later }
def PacksUptoCardSaid : Prop := Claim7.holds Tryz.pinned (.plain (OpenSpec.upto packsSpec)) packsUptoCard
end Rows
end Go.Proofs.YtkooakadckjpkaaGreatDoor
