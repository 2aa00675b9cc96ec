import Derived.Deep.RegionWith
import Derived.Test.YtikdblkfjchjbaaGreatDoorY17
set_option linter.unusedVariables false
set_option linter.unusedSimpArgs false
set_option maxHeartbeats 16000000
set_option maxRecDepth 100000
namespace Go.Proofs.YtikdblkfjchjbaaGreatDoor
open Go.RowKit
def GoodW (ws : List WordG) : Prop := ∀ x ∈ ws, GoodA x.l ∧ x.l.length ≤ 2000
theorem GoodW.nth {ws : List WordG} (h : GoodW ws) (k : Nat) (hk : k < ws.length) : GoodA (nth ws k).l ∧ (nth ws k).l.length ≤ 2000 := by
 rw [q14 hk]; exact h _ (List.getElem_mem hk)
theorem WordG.text_len (x : WordG) : x.text.length ≤ x.l.length := by
 have := quq x.l []; simpa [WordG.text] using this
end Go.Proofs.YtikdblkfjchjbaaGreatDoor
