import Derived.Test.YtdbpkhnmhddmmaaGreatDoorRnTpP
namespace Go.Proofs.YtdbpkhnmhddmmaaGreatDoor.TpX
open Go St BiH JnP JnR JnS RdP PaA PaP PaK PkY TpP
end Go.Proofs.YtdbpkhnmhddmmaaGreatDoor.TpX
