import Derived.Test.YtikdblkfjchjbaaGreatDoorShelf
set_option linter.unusedVariables false
set_option linter.unusedSimpArgs false
set_option maxHeartbeats 16000000
set_option maxRecDepth 100000
namespace Go.Proofs
open Go.Shelf
def Tryz.sortS_ren:Go.Shelf.Ren:=Tryz.laysSlF6_f140_ren
theorem Tryz.sortS:Go.Proofs.SlLaysF.n6 Tryz.prog Tryz.sortS_ren:=Tryz.laysSlF6_f140
end Go.Proofs
