/-
  DERIVED. GIVEN WITH THE SEED: THE CARDS: each row of YtflggoddfjmljaaDoorRows.lean that lists a variable, with what it lists TIED to the program's text (the seventh form; the later family's looks); each row that meets fmt, with fmt's text TOLD by the authors' own Lean function (tested against real Go, not proved from fmt's source: count such statements apart). THE CARD IS WHAT COUNTS. Prove the row's statement (the work); the ties are given (YtflggoddfjmljaaDoorTie.lean); close each card by the builder's one call (the guide's Derived/Test/ToyasCard.lean, 'card_holds'). Laid BY PROGRAM, IN A SANDBOX (cutbox-door.mjs). By AI agents, Wed Nov 11 2026. No macro, syntax, notation, axiom, sorry.
-/
import Derived.Test.YtflggoddfjmljaaDoorRows
import GoSem.ClaimSeven
namespace Go.Proofs.YtflggoddfjmljaaDoor
namespace Rows

/-- THE TIED CARD OF 'layerslaw.Plans'. -/
def plansCard : Claim7 := { stood := { row := plansRow, standIns := [], harness := (true, "7b85648824e7cedaa0c2d6f36330efeb7766365bdd49b53a3b814f5b2a9beefa"), looks := true }, kinds := [], alts := [], laidByText := true, laidKinds := [.handle, .widerDeep], laidTests := true, laidLooks := .later }
def PlansCardSaid : Prop := Claim7.holds Tryd.pinned (.plain (OpenSpec.ofChange plansSpec)) plansCard

/-- THE SECOND FORM's CARD OF 'layerslaw.Plans'. -/
def plansUptoCard : Claim7 := { stood := { row := plansUptoRow, standIns := [], harness := (true, "7b85648824e7cedaa0c2d6f36330efeb7766365bdd49b53a3b814f5b2a9beefa"), looks := true }, kinds := [], alts := [], laidByText := true, laidKinds := [.handle, .widerDeep], laidTests := true, laidLooks := .later }
def PlansUptoCardSaid : Prop := Claim7.holds Tryd.pinned (.plain (OpenSpec.upto plansSpec)) plansUptoCard
end Rows
end Go.Proofs.YtflggoddfjmljaaDoor
