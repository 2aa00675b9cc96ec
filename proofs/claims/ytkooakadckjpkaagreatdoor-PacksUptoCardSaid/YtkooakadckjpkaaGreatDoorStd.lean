/-
  What the package-level variables of the library and of the program hold when a call begins, and that calls leave it so.
-/
import Derived.Test.YtkooakadckjpkaaGreatDoorBase
namespace Go.Proofs.YtkooakadckjpkaaGreatDoor
open Go.RowKit

/-- the package-level variables that the calls read -/
structure Std (w : World) : Prop where
  maxlen : ∃ m, w.cell? ⟨1, 0, none⟩ = some (.int .i64 m)

theorem Std.below {w w' : World} (h : Std w) (hb : Below w.heap.size w w') : Std w' := by
  obtain ⟨m, hm⟩ := h.maxlen
  exact ⟨⟨m, (hb.cell (World.block_lt_of_cell? w _ hm)).trans hm⟩⟩
end Go.Proofs.YtkooakadckjpkaaGreatDoor
