/-
  The program: the library's octal digits.
-/
import Derived.Test.YtkooakadckjpkaaGreatDoorTarN
namespace Go.Proofs.YtkooakadckjpkaaGreatDoor
open Go.RowKit

theorem isPow_any (w : World) : Calls Tryz.prog 97 #[.int .i64 8] w fun e w' => e = .returned (.bool true) ∧ w = w' := by
  go_enter Tryz.func97, Tryz.ntmps97
  go_wp2
  go_ret
  exact ⟨rfl, rfl⟩

/-- the one cell of the table that eight reads -/
def Tz (w : World) : Prop := w.cell? ⟨6, 7, none⟩ = some (.int .u8 3)
theorem Tz.below {w w' : World} (h : Tz w) (hb : Below w.heap.size w w') : Tz w' := (hb.cell (World.block_lt_of_cell? w _ h)).trans h

theorem tz64_any (w : World) (h : Tz w) : Calls Tryz.prog 103 #[.int .u64 8] w fun e w' => e = .returned (.int .i64 3) ∧ w = w' := by
  have hix : (IntKind.u64.wrap (Go.bits BinOp.and IntKind.u64 8 (IntKind.u64.wrap (-8)) * 285870213051353865) / 288230376151711744).toNat = 7 := by kernel_rfl
  unfold Tz at h
  rw [← hix] at h
  clear hix
  go_enter Tryz.func103, Tryz.ntmps103
  go_wp2
  go_ret
  exact ⟨rfl, rfl⟩
theorem tz_any (w : World) (h : Tz w) : Calls Tryz.prog 98 #[.int .u64 8] w fun e w' => e = .returned (.int .i64 3) ∧ w = w' := by
  go_enter Tryz.func98, Tryz.ntmps98
  go_wp2_with fail
  refine (tz64_any _ h).mono ?_
  rintro e w' ⟨rfl, rfl⟩
  go_wp2
  go_ret
  exact ⟨rfl, rfl⟩
end Go.Proofs.YtkooakadckjpkaaGreatDoor
