import Derived.Test.YtdbpkhnmhddmmaaGreatDoorRnTpX
import Derived.Test.YtdbpkhnmhddmmaaGreatDoorRnTpW
namespace Go.Proofs.YtdbpkhnmhddmmaaGreatDoor.TpA
open Go Go.RowKit Q Mem Rg Ap St BiH CrB Ints Tab TbM TbO TbP TbT TbU TbV TbW PaA PaR PaP PaN PaK PkE PkY FrA FrB FrC LaA LaH LaQ BuE BuI BuJ BuL BuN BuO BuP BuS BuT BoP BoQ JnP JnR JnS JnA JnD JnE RdP FrG TpM TpP TpX TpW
theorem byJ_new {c:Nat} {S:List ByteArray} (h: ∀s∈S,paE s=0) {k:Nat} (hk:k<nP (S.map ByteArray.size)):byJ (jnK 17 c S k) (str (byt 17 c S k))=⟨newO S k,0,jnK 17 c S (k+1)⟩:=by
 unfold byJ;rw[if_neg (fun e=>e (byt_dp (pid:=17) (by decide) c S k ((bst_of h).more k hk)).1),jn_new (by decide) c h hk]
set_option maxRecDepth 100000
end Go.Proofs.YtdbpkhnmhddmmaaGreatDoor.TpA
