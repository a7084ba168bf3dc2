import Derived.Test.YtbiiehobfnbloaaGreatDoorLnLkRef
import Derived.RegionTactic
import Derived.BigRegion
import Derived.Laws.BytesArg
namespace Go.Proofs.YtbiiehobfnbloaaGreatDoor.LkRef2
open Go.RowKit Q Mem PkCut LkHarm LkPass LkRef
end Go.Proofs.YtbiiehobfnbloaaGreatDoor.LkRef2
