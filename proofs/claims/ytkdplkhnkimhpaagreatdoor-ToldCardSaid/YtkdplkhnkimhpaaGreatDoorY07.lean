/-
  The program: a word turned; the words of a block.
-/
import Derived.Deep.OwnRows
import Derived.Deep.RegionWith
import Derived.StillTailTactics
import Derived.BigRegion
import Derived.BigQuiet
import Derived.Lib.LazyBuf
import Derived.Test.YtkdplkhnkimhpaaGreatDoorY00
set_option linter.unusedVariables false
set_option linter.unusedSimpArgs false
namespace Go.Proofs.YtkdplkhnkimhpaaGreatDoor
open Go.RowKit

theorem rot_and : ∀ n : Fin 32, 0 < n.val → bits .and .u64 (IntKind.u64.wrap (-(n.val : Int))) 31 = ((32 - n.val : Nat) : Int) := by decide +kernel
set_option maxHeartbeats 1000000 in
theorem rot_any (x : W32) (n : Nat) (h1 : 0 < n) (h2 : n < 32) (w : World) :
    Calls Tryz.prog 114 #[.int .u32 (tn x : Int), .int .i64 (-(n : Int))] w fun e w' => e = .returned (.int .u32 (tn (rr x n) : Int)) ∧ w = w' := by
  have ha := rot_and ⟨n, h2⟩ h1
  simp only at ha
  go_enter Tryz.func114, Tryz.ntmps114
  go_wp2
  go_ret
  have e : 32 - (32 - n) = n := by omega
  refine ⟨?_, rfl⟩
  rw [e]
  show Ending.returned (Value.int .u32 (bits .or .u32 ((x.toNat : Int) * 2 ^ (32 - n) % 4294967296) ((x.toNat : Int) / 2 ^ n))) = _
  rw [u32_shlM, u32_shr, u32_or]
  rfl
end Go.Proofs.YtkdplkhnkimhpaaGreatDoor
