import Derived.Deep.RegionHeld3
import Derived.StillTailTactics
import Derived.Test.YtikdblkfjchjbaaGreatDoorY04
set_option linter.unusedVariables false
set_option linter.unusedSimpArgs false
set_option maxHeartbeats 16000000
set_option maxRecDepth 100000
namespace Go.Proofs.YtikdblkfjchjbaaGreatDoor
open Go.RowKit
theorem set4 {w : World} {g : Nat} {a b c d : Value} {t : TypeId} (h : w.heap[g]? = some (.cells #[a, b, c, d] t (0, 0))) (e : Ent) : Cell4 ((((w.setCell ⟨g, 0, none⟩ (.string (S e.path))).setCell ⟨g, 1, none⟩ (.int .i64 e.kind)).setCell ⟨g, 2, none⟩ (.int .i64 e.mode)).setCell ⟨g, 3, none⟩ (.string (S e.data))) g e := by
 have h1 := Go.heap_setCell_same w g 0 _ _ (.string (S e.path)) h;have h2 := Go.heap_setCell_same _ g 1 _ _ (.int .i64 e.kind) h1;have h3 := Go.heap_setCell_same _ g 2 _ _ (.int .i64 e.mode) h2;have h4 := Go.heap_setCell_same _ g 3 _ _ (.string (S e.data)) h3;refine ⟨?_, ?_, ?_, ?_⟩ <;> rw [cell_of_row _ _ _ _ _ _ h4] <;> rfl
def q3v (t : Int × Int × Int × List UInt8) : List Value := [.int .i64 t.1, .int .i64 t.2.1, .int .i64 t.2.2.1, .string (S t.2.2.2)]
def q3u : List (Int × Int × Int × List UInt8) → List Value
 | [] => []
 | t :: r => q3v t ++ q3u r
end Go.Proofs.YtikdblkfjchjbaaGreatDoor
