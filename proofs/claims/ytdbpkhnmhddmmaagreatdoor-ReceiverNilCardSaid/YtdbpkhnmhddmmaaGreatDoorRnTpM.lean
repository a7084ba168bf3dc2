import Derived.Test.YtdbpkhnmhddmmaaGreatDoorRnFrG
namespace Go.Proofs.YtdbpkhnmhddmmaaGreatDoor.TpM
open Go Go.RowKit Q Mem Rg Ap St CrB Ints Tab TbM FrA FrB LaA LaH BuJ FrG
set_option maxRecDepth 100000
end Go.Proofs.YtdbpkhnmhddmmaaGreatDoor.TpM
