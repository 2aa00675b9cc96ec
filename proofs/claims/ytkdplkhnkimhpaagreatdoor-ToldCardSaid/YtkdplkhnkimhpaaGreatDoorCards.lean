/-
  DERIVED. GIVEN WITH THE SEED: THE CARDS: each row of YtkdplkhnkimhpaaGreatDoorRows.lean that lists a variable, with what it lists TIED to the program's text (the seventh form; the later family's looks); each row that meets fmt, with fmt's text TOLD by the authors' own Lean function (tested against real Go, not proved from fmt's source: count such statements apart). THE CARD IS WHAT COUNTS. Prove the row's statement (the work); the ties are given (YtkdplkhnkimhpaaGreatDoorTie.lean); close each card by the builder's one call (the guide's Derived/Test/ToyasCard.lean, 'card_holds'). Laid BY PROGRAM, IN A SANDBOX (cutbox-door.mjs). By AI agents, Wed Nov 11 2026. No macro, syntax, notation, axiom, sorry.
-/
import Derived.Test.YtkdplkhnkimhpaaGreatDoorRows
import GoSem.ClaimSeven
namespace Go.Proofs.YtkdplkhnkimhpaaGreatDoor
namespace Rows

/-- THE TIED CARD OF 'layerskeep.Told'. -/
def toldCard : Claim7 := { stood := { row := toldRow, standIns := [], harness := (true, "3e9a500f0804613c89bdc7e8b061e9e19e51101ffced2e5deb655157f55d9864"), looks := true }, kinds := [], alts := [], laidByText := true, laidKinds := [.data, .data, .data, .data, .data, .data, .handle, .pinned], laidTests := true, laidLooks := .later }
def ToldCardSaid : Prop := Claim7.holds Tryz.pinned (.plain (OpenSpec.ofChange toldSpec)) toldCard

/-- THE TIED CARD OF 'layerskeep.Through'. -/
def throughCard : Claim7 := { stood := { row := throughRow, standIns := [], harness := (true, "3e9a500f0804613c89bdc7e8b061e9e19e51101ffced2e5deb655157f55d9864"), looks := true }, kinds := [], alts := [], laidByText := true, laidKinds := [.data, .data, .data, .data, .handle, .sentinel, .sentinel, .pinned], laidTests := true, laidLooks := .later }
def ThroughCardSaid : Prop := Claim7.holds Tryz.pinned (.plain (OpenSpec.ofChange throughSpec)) throughCard

/-- THE SECOND FORM's CARD OF 'layerskeep.Told'. -/
def toldUptoCard : Claim7 := { stood := { row := toldUptoRow, standIns := [], harness := (true, "3e9a500f0804613c89bdc7e8b061e9e19e51101ffced2e5deb655157f55d9864"), looks := true }, kinds := [], alts := [], laidByText := true, laidKinds := [.data, .data, .data, .data, .data, .data, .handle, .pinned], laidTests := true, laidLooks := .later }
def ToldUptoCardSaid : Prop := Claim7.holds Tryz.pinned (.plain (OpenSpec.upto toldSpec)) toldUptoCard

/-- THE SECOND FORM's CARD OF 'layerskeep.Through'. -/
def throughUptoCard : Claim7 := { stood := { row := throughUptoRow, standIns := [], harness := (true, "3e9a500f0804613c89bdc7e8b061e9e19e51101ffced2e5deb655157f55d9864"), looks := true }, kinds := [], alts := [], laidByText := true, laidKinds := [.data, .data, .data, .data, .handle, .sentinel, .sentinel, .pinned], laidTests := true, laidLooks := .later }
def ThroughUptoCardSaid : Prop := Claim7.holds Tryz.pinned (.plain (OpenSpec.upto throughSpec)) throughUptoCard
end Rows
end Go.Proofs.YtkdplkhnkimhpaaGreatDoor
