/-
  DERIVED. GIVEN WITH THE SEED: THE CARDS: each row of YtikdblkfjchjbaaGreatDoorRows.lean that lists a variable, with what it lists TIED to the program's text (the seventh form; the later family's looks); each row that meets fmt, with fmt's text TOLD by the authors' own Lean function (tested against real Go, not proved from fmt's source: count such statements apart). THE CARD IS WHAT COUNTS. Prove the row's statement (the work); the ties are given (YtikdblkfjchjbaaGreatDoorTie.lean); close each card by the builder's one call (the guide's Derived/Test/ToyasCard.lean, 'card_holds'). Laid BY PROGRAM, IN A SANDBOX (cutbox-door.mjs). By AI agents, Wed Nov 11 2026. No macro, syntax, notation, axiom, sorry.
-/
import Derived.Test.YtikdblkfjchjbaaGreatDoorRows
import GoSem.ClaimSeven
namespace Go.Proofs.YtikdblkfjchjbaaGreatDoor
namespace Rows

/-- THE TIED CARD OF 'layerskeep.Formed'. -/
def formedCard : Claim7 := { stood := { row := formedRow, standIns := [], harness := (true, "2135f6890d9b8047c4e63707e5583c73dec1ebe308bbfd4044c25d9e633be1e4"), looks := true }, kinds := [], alts := [], laidByText := true, laidKinds := [.data, .data, .data, .data, .handle, .sentinel, .sentinel, .widerDeep, .pinned], laidTests := true, laidLooks := .later }
def FormedCardSaid : Prop := Claim7.holds Tryz.pinned (.plain (OpenSpec.ofChange formedSpec)) formedCard

/-- THE TIED CARD OF 'layerskeep.Known'. -/
def knownCard : Claim7 := { stood := { row := knownRow, standIns := [], harness := (true, "2135f6890d9b8047c4e63707e5583c73dec1ebe308bbfd4044c25d9e633be1e4"), looks := true }, kinds := [], alts := [], laidByText := true, laidKinds := [.data, .data, .data, .data, .handle, .sentinel, .sentinel, .widerDeep, .pinned], laidTests := true, laidLooks := .later }
def KnownCardSaid : Prop := Claim7.holds Tryz.pinned (.plain (OpenSpec.ofChange knownSpec)) knownCard

/-- THE SECOND FORM's CARD OF 'layerskeep.Formed'. -/
def formedUptoCard : Claim7 := { stood := { row := formedUptoRow, standIns := [], harness := (true, "2135f6890d9b8047c4e63707e5583c73dec1ebe308bbfd4044c25d9e633be1e4"), looks := true }, kinds := [], alts := [], laidByText := true, laidKinds := [.data, .data, .data, .data, .handle, .sentinel, .sentinel, .widerDeep, .pinned], laidTests := true, laidLooks := .later }
def FormedUptoCardSaid : Prop := Claim7.holds Tryz.pinned (.plain (OpenSpec.upto formedSpec)) formedUptoCard

/-- THE SECOND FORM's CARD OF 'layerskeep.Known'. -/
def knownUptoCard : Claim7 := { stood := { row := knownUptoRow, standIns := [], harness := (true, "2135f6890d9b8047c4e63707e5583c73dec1ebe308bbfd4044c25d9e633be1e4"), looks := true }, kinds := [], alts := [], laidByText := true, laidKinds := [.data, .data, .data, .data, .handle, .sentinel, .sentinel, .widerDeep, .pinned], laidTests := true, laidLooks := .later }
def KnownUptoCardSaid : Prop := Claim7.holds Tryz.pinned (.plain (OpenSpec.upto knownSpec)) knownUptoCard
end Rows
end Go.Proofs.YtikdblkfjchjbaaGreatDoor
