/-
  DERIVED. GIVEN WITH THE SEED: THE CARDS: each row of YtkaelknmdmkhcaaDoorRows.lean that lists a variable, with what it lists TIED to the program's text (the seventh form; the later family's looks); each row that meets fmt, with fmt's text TOLD by the authors' own Lean function (tested against real Go, not proved from fmt's source: count such statements apart). THE CARD IS WHAT COUNTS. Prove the row's statement (the work); the ties are given (YtkaelknmdmkhcaaDoorTie.lean); close each card by the builder's one call (the guide's Derived/Test/ToyasCard.lean, 'card_holds'). Laid BY PROGRAM, IN A SANDBOX (cutbox-door.mjs). By AI agents, Wed Nov 11 2026. No macro, syntax, notation, axiom, sorry.
-/
import Derived.Test.YtkaelknmdmkhcaaDoorRows
import GoSem.ClaimSeven
namespace Go.Proofs.YtkaelknmdmkhcaaDoor
namespace Rows

/-- THE TIED CARD OF 'layerslaw.Resolves'. -/
def resolvesCard : Claim7 := { stood := { row := resolvesRow, standIns := [], harness := (true, "349739b7f882ce1ae2e9f75e0425fb20b0565bdbee280951ad9d3e9020df20fc"), looks := true }, kinds := [], alts := [], laidByText := true, laidKinds := [.data, .handle, .pinned], laidTests := true, laidLooks := .later }
def ResolvesCardSaid : Prop := Claim7.holds Tryd.pinned (.plain (OpenSpec.ofChange resolvesSpec)) resolvesCard

/-- THE TIED CARD OF 'layerslaw.Plans'. -/
def plansCard : Claim7 := { stood := { row := plansRow, standIns := [], harness := (true, "349739b7f882ce1ae2e9f75e0425fb20b0565bdbee280951ad9d3e9020df20fc"), looks := true }, kinds := [], alts := [], laidByText := true, laidKinds := [.handle, .widerDeep], laidTests := true, laidLooks := .later }
def PlansCardSaid : Prop := Claim7.holds Tryd.pinned (.plain (OpenSpec.ofChange plansSpec)) plansCard

/-- THE SECOND FORM's CARD OF 'layerslaw.Resolves'. -/
def resolvesUptoCard : Claim7 := { stood := { row := resolvesUptoRow, standIns := [], harness := (true, "349739b7f882ce1ae2e9f75e0425fb20b0565bdbee280951ad9d3e9020df20fc"), looks := true }, kinds := [], alts := [], laidByText := true, laidKinds := [.data, .handle, .pinned], laidTests := true, laidLooks := .later }
def ResolvesUptoCardSaid : Prop := Claim7.holds Tryd.pinned (.plain (OpenSpec.upto resolvesSpec)) resolvesUptoCard

/-- THE SECOND FORM's CARD OF 'layerslaw.Plans'. -/
def plansUptoCard : Claim7 := { stood := { row := plansUptoRow, standIns := [], harness := (true, "349739b7f882ce1ae2e9f75e0425fb20b0565bdbee280951ad9d3e9020df20fc"), looks := true }, kinds := [], alts := [], laidByText := true, laidKinds := [.handle, .widerDeep], laidTests := true, laidLooks := .later }
def PlansUptoCardSaid : Prop := Claim7.holds Tryd.pinned (.plain (OpenSpec.upto plansSpec)) plansUptoCard
end Rows
end Go.Proofs.YtkaelknmdmkhcaaDoor
