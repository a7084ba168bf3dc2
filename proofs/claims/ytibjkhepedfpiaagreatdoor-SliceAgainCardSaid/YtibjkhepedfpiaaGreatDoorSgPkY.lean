import Derived.Test.YtibjkhepedfpiaaGreatDoorSgPkH
namespace Go.Proofs.YtibjkhepedfpiaaGreatDoor.PkY
open Go Go.RowKit Q Mem Rg Ap St BlS PaR PaK PkP PkE
structure PkOk (p:Pkt):Prop where
 pid:0≤p.pid∧p.pid<8192
 count:0≤p.count∧p.count<16
 body:p.body.size=184∨p.body.size=183
def pkBy (p:Pkt):List UInt8:=pkB p.pid.toNat p.start p.count.toNat (bl p.body)
def airL (L:List Pkt):List UInt8:=(L.map pkBy).flatten
theorem pkBy_len {p:Pkt} (h:PkOk p):(pkBy p).length=188:=pkB_len (by rw[bl_len];exact h.body)
theorem airL_len {L:List Pkt} (h: ∀p∈L,PkOk p):(airL L).length=188*L.length:=by
 induction L with
 |nil=>rfl
 |cons p t ih=>
  have h1:=pkBy_len (h p (by simp));have h2:=ih (fun x hx=>h x (by simp[hx]));show(pkBy p++airL t).length=_;rw[List.length_append,h1,h2,List.length_cons];omega
theorem airL_app (a b:List Pkt):airL (a++b)=airL a++airL b:=by simp[airL]
def nilPk:Pkt:=⟨8191,false,0,ff 184⟩
theorem nil_ok:PkOk nilPk:=⟨by decide,by decide,Or.inl (by show(str _).size=184;rw[str_size,List.length_replicate])⟩
set_option maxRecDepth 100000
end Go.Proofs.YtibjkhepedfpiaaGreatDoor.PkY
