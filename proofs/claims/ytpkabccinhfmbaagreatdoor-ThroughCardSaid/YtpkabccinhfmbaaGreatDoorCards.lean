/-
  DERIVED. GIVEN WITH THE SEED: THE CARDS: each row of YtpkabccinhfmbaaGreatDoorRows.lean that lists a variable, with what it lists TIED to the program's text (the seventh form; the later family's looks); each row that meets fmt, with fmt's text TOLD by the authors' own Lean function (tested against real Go, not proved from fmt's source: count such statements apart). THE CARD IS WHAT COUNTS. Prove the row's statement (the work); the ties are given (YtpkabccinhfmbaaGreatDoorTie.lean); close each card by the builder's one call (the guide's Derived/Test/ToyasCard.lean, 'card_holds'). Laid BY PROGRAM, IN A SANDBOX (cutbox-door.mjs). By AI agents, Wed Nov 11 2026. No macro, syntax, notation, axiom, sorry.
-/
import Derived.Test.YtpkabccinhfmbaaGreatDoorRows
import GoSem.ClaimSeven
namespace Go.Proofs.YtpkabccinhfmbaaGreatDoor
namespace Rows

/-- THE TIED CARD OF 'layerskeep.Through'. -/
def throughCard : Claim7 := { stood := { row := throughRow, standIns := [], harness := (true, "26304dec3e6122eeb5b123ac6d74109b8ceec458991f020c364ce6c9a135dc97"), looks := true }, kinds := [], alts := [], laidByText := true, laidKinds := [.data, .data, .data, .data, .handle, .sentinel, .sentinel, .pinned], laidTests := true, laidLooks := .later }
def ThroughCardSaid : Prop := Claim7.holds Tryz.pinned (.plain (OpenSpec.ofChange throughSpec)) throughCard

/-- THE SECOND FORM's CARD OF 'layerskeep.Through'. -/
def throughUptoCard : Claim7 := { stood := { row := throughUptoRow, standIns := [], harness := (true, "26304dec3e6122eeb5b123ac6d74109b8ceec458991f020c364ce6c9a135dc97"), looks := true }, kinds := [], alts := [], laidByText := true, laidKinds := [.data, .data, .data, .data, .handle, .sentinel, .sentinel, .pinned], laidTests := true, laidLooks := .later }
def ThroughUptoCardSaid : Prop := Claim7.holds Tryz.pinned (.plain (OpenSpec.upto throughSpec)) throughUptoCard
end Rows
end Go.Proofs.YtpkabccinhfmbaaGreatDoor
