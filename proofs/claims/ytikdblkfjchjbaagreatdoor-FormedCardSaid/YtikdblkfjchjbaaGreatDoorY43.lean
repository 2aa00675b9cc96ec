import Derived.Test.YtikdblkfjchjbaaGreatDoorY13
import Derived.Test.YtikdblkfjchjbaaGreatDoorY16
set_option linter.unusedVariables false
set_option linter.unusedSimpArgs false
set_option maxHeartbeats 16000000
set_option maxRecDepth 100000
namespace Go.Proofs.YtikdblkfjchjbaaGreatDoor
open Go.RowKit
theorem qzt{y:List UInt8}(p:List UInt8)(h:qfr y=true):qbh ⟨p,1,(valM y:Int),[]⟩=true:=by
 have:=q42 h;unfold qbh qh6;simp
 omega
end Go.Proofs.YtikdblkfjchjbaaGreatDoor
