/-
  DERIVED. GIVEN WITH THE SEED: THE CARDS: each row of YtafokdidpbainaaGreatDoorRows.lean that lists a variable, with what it lists TIED to the program's text (the seventh form; the later family's looks); each row that meets fmt, with fmt's text TOLD by the authors' own Lean function (tested against real Go, not proved from fmt's source: count such statements apart). THE CARD IS WHAT COUNTS. Prove the row's statement (the work); the ties are given (YtafokdidpbainaaGreatDoorTie.lean); close each card by the builder's one call (the guide's Derived/Test/ToyasCard.lean, 'card_holds'). Laid BY PROGRAM, IN A SANDBOX (cutbox-door.mjs). By AI agents, Wed Nov 11 2026. No macro, syntax, notation, axiom, sorry.
-/
import Derived.Test.YtafokdidpbainaaGreatDoorRows
import GoSem.ClaimSeven
namespace Go.Proofs.YtafokdidpbainaaGreatDoor
namespace Rows

/-- THE TIED CARD OF 'layerslaw.Sums'. -/
def sumsCard : Claim7 := { stood := { row := sumsRow, standIns := [], harness := (true, "0fdb547237f6e36a86a62897b5494e1fde729b853c79c2cb709634081b8eea2b"), looks := true }, kinds := [], alts := [], laidByText := true, laidKinds := [.data, .data, .data, .data, .data, .data, .handle, .pinned], laidTests := true, laidLooks := .later }
def SumsCardSaid : Prop := Claim7.holds Tryz.pinned (.plain (OpenSpec.ofChange sumsSpec)) sumsCard

/-- THE TIED CARD OF 'layerslaw.Diffs'. -/
def diffsCard : Claim7 := { stood := { row := diffsRow, standIns := [], harness := (true, "0fdb547237f6e36a86a62897b5494e1fde729b853c79c2cb709634081b8eea2b"), looks := true }, kinds := [], alts := [], laidByText := true, laidKinds := [.data, .handle, .pinned], laidTests := true, laidLooks := .later }
def DiffsCardSaid : Prop := Claim7.holds Tryz.pinned (.plain (OpenSpec.ofChange diffsSpec)) diffsCard

/-- THE TIED CARD OF 'layerskeep.Undone'. -/
def undoneCard : Claim7 := { stood := { row := undoneRow, standIns := [], harness := (true, "0fdb547237f6e36a86a62897b5494e1fde729b853c79c2cb709634081b8eea2b"), looks := true }, kinds := [], alts := [], laidByText := true, laidKinds := [.data, .handle, .pinned], laidTests := true, laidLooks := .later }
def UndoneCardSaid : Prop := Claim7.holds Tryz.pinned (.plain (OpenSpec.ofChange undoneSpec)) undoneCard

/-- THE SECOND FORM's CARD OF 'layerslaw.Sums'. -/
def sumsUptoCard : Claim7 := { stood := { row := sumsUptoRow, standIns := [], harness := (true, "0fdb547237f6e36a86a62897b5494e1fde729b853c79c2cb709634081b8eea2b"), looks := true }, kinds := [], alts := [], laidByText := true, laidKinds := [.data, .data, .data, .data, .data, .data, .handle, .pinned], laidTests := true, laidLooks := .later }
def SumsUptoCardSaid : Prop := Claim7.holds Tryz.pinned (.plain (OpenSpec.upto sumsSpec)) sumsUptoCard

/-- THE SECOND FORM's CARD OF 'layerslaw.Diffs'. -/
def diffsUptoCard : Claim7 := { stood := { row := diffsUptoRow, standIns := [], harness := (true, "0fdb547237f6e36a86a62897b5494e1fde729b853c79c2cb709634081b8eea2b"), looks := true }, kinds := [], alts := [], laidByText := true, laidKinds := [.data, .handle, .pinned], laidTests := true, laidLooks := .later }
def DiffsUptoCardSaid : Prop := Claim7.holds Tryz.pinned (.plain (OpenSpec.upto diffsSpec)) diffsUptoCard

/-- THE SECOND FORM's CARD OF 'layerskeep.Undone'. -/
def undoneUptoCard : Claim7 := { stood := { row := undoneUptoRow, standIns := [], harness := (true, "0fdb547237f6e36a86a62897b5494e1fde729b853c79c2cb709634081b8eea2b"), looks := true }, kinds := [], alts := [], laidByText := true, laidKinds := [.data, .handle, .pinned], laidTests := true, laidLooks := .later }
def UndoneUptoCardSaid : Prop := Claim7.holds Tryz.pinned (.plain (OpenSpec.upto undoneSpec)) undoneUptoCard
end Rows
end Go.Proofs.YtafokdidpbainaaGreatDoor
