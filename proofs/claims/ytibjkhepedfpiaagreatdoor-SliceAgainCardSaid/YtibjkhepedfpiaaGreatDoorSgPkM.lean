import Derived.Test.YtibjkhepedfpiaaGreatDoorSgPkW
namespace Go.Proofs.YtibjkhepedfpiaaGreatDoor.MdA
open Go Go.RowKit Q Mem Rg Ap St BiW BiG Ints TbM GfP PoP RsP GfA PoA
set_option maxRecDepth 100000
structure Lost (L:List Nat):Prop where
 nd:L.Nodup
 lt: ∀n∈L,n<255
 le:L.length≤64
end Go.Proofs.YtibjkhepedfpiaaGreatDoor.MdA
namespace Go.Proofs.YtibjkhepedfpiaaGreatDoor.MdB
open Go Go.RowKit Q Mem Rg Ap St BiW BiG CrB Scp TbM GfP PoP RsP GfA PoA MdA
set_option maxRecDepth 100000
def tm (a:Act) (k:Nat):Value:=a.tmps.getD k undef
def frL (g K:Nat) (s lo o:ByteArray) (r:Nat) (u:Nat→Value):Act:={tmps:= #[.pointer (some ⟨g,0,none⟩),.string s,.string lo,u 3,u 4,u 5,.string ⟨#[]⟩,.int .i64 0,.int .i64 (K:Int),.string lo,.string o,.int .i64 (K:Int),.int .i64 (r:Int),u 13,u 14,u 15,u 16,u 17,u 18,u 19,u 20,u 21,u 22,u 23,u 24,u 25,u 26,u 27,u 28,u 29,u 30,u 31,u 32,u 33,u 34,u 35,u 36,u 37,u 38,u 39,u 40,u 41,u 42,u 43,u 44,u 45,u 46,u 47,u 48,u 49,u 50,u 51,u 52,u 53,u 54,u 55,u 56,u 57,u 58,u 59,u 60,u 61,u 62,u 63,u 64,u 65,u 66,u 67,u 68,u 69,u 70,u 71,u 72,u 73,u 74,u 75,u 76,u 77,u 78,u 79,u 80,u 81,u 82,u 83],defers:=[]}
def J0 (w:World) (g K:Nat) (s lo:ByteArray) (a:Act) (W:World):Prop:=
 ∃(u:Nat→Value) (o:ByteArray) (r:Nat),a=frL g K s lo o r u∧K≤r∧r≤64∧o.size≤lo.size+r∧Fld W g∧Below w.heap.size w W
theorem j0_intro {w W:World} {g K r:Nat} {s lo o:ByteArray} {a:Act} (h:a=frL g K s lo o r (tm a)) (h1:K≤r) (h2:r≤64) (h3:o.size≤lo.size+r) (hF:Fld W g) (hb:Below w.heap.size w W):J0 w g K s lo a W:=⟨tm a,o,r,h,h1,h2,h3,hF,hb⟩
def num (v:Value):Nat:=match v with| .int _ i=>i.toNat|_=>0
end Go.Proofs.YtibjkhepedfpiaaGreatDoor.MdB
namespace Go.Proofs.YtibjkhepedfpiaaGreatDoor.MdC
open Go Go.RowKit Q Mem Rg Ap St BiW BiG CrB Scp Fl TbM GfP PoP RsP GfA PoA PoB MdA MdB
set_option maxRecDepth 100000
def upTo (L:List Nat) (k:Nat):List Nat:=(List.range k).filter (fun n=>decide (n∈L))
theorem upTo_mem (L:List Nat) (k n:Nat):n∈upTo L k↔n<k∧n∈L:=by
 unfold upTo;simp
end Go.Proofs.YtibjkhepedfpiaaGreatDoor.MdC
namespace Go.Proofs.YtibjkhepedfpiaaGreatDoor.MdP
open Go Go.RowKit St GfP PoP RsP PoA PoB RsB MdA MdB MdC
theorem fa_map (k:Nat) (f:Nat→UInt8) (i:Nat) (h:i<k):fa ((List.range k).map f) i=f i:=fa_in (by simp[h])
structure Near (L:List Nat) (r c:List UInt8):Prop where
 lost:Lost L
 len:r.length=255
 len':c.length=255
 word: ∀j,j<64→hr c (ex j)=0
 same: ∀n,n<255→n∉L→fa r n=fa c n
def wrg (r c:List UInt8) (n:Nat):UInt8:=fa r n^^^fa c n
variable {L:List Nat} {r c:List UInt8}
theorem Near.inj (h:Near L r c): ∀a∈L,∀b∈L,loc a=loc b→a=b:=fun a ha b hb e=>loc_inj (h.lost.lt a ha) (h.lost.lt b hb) e
theorem Near.syn (h:Near L r c) (j:Nat) (hj:j<64):fa (synL r) j=PoP.syn L loc (wrg r c) j:=by
 rw[synL,fa_map 64 _ j hj];exact syn_of h.len h.len' h.lost.nd h.lost.lt h.word h.same j hj
theorem Near.zero (h:Near L r c) (hz:isW r=true):r=c:=by
 have h0:=(isW_iff r).1 hz
 have hs: ∀j,j<64→PoP.syn L loc (wrg r c) j=0:=fun j hj=>by
  rw[←h.syn j hj,synL,fa_map 64 _ j hj];exact h0 j hj
 have hn:=none_wrong (e:=wrg r c) h.inj h.lost.nd h.lost.le (fun a _=>loc_ne a) hs;refine List.ext_getElem (by rw[h.len,h.len']) (fun n h1 h2=>?_);have hfr:fa r n=r[n]:=fa_in (List.getElem?_eq_getElem h1);have hfc:fa c n=c[n]:=fa_in (List.getElem?_eq_getElem h2);rw[←hfr,←hfc];by_cases hm:n∈L
 ·exact x_zero (hn n hm)
 ·exact h.same n (by rw[←h.len];exact h1) hm
theorem Near.out (h:Near L r c):(List.range 255).map (fun j=>if j∈upTo L 255 then fa c j else fa r j)=c:=by
 refine List.ext_getElem (by simp[h.len']) (fun n h1 h2=>?_);have hn:n<255:=by simpa using h1
 rw[List.getElem_map,List.getElem_range];have hfc:fa c n=c[n]:=fa_in (List.getElem?_eq_getElem h2);rw[←hfc]
 split
 ·rfl
 ·rename_i hm
  exact h.same n hn (fun hl=>hm ((upTo_mem L 255 n).2 ⟨hn,hl⟩))
end Go.Proofs.YtibjkhepedfpiaaGreatDoor.MdP
namespace Go.Proofs.YtibjkhepedfpiaaGreatDoor.MdD
open Go Go.RowKit Q Mem Rg Ap ApC St BiW BiG Ints CrB SeEq Fl TbM GfP PoP RsP GfA PoA PoB RsB MdA MdB MdC MdP
set_option maxRecDepth 100000
structure Arr (w:World) (g n:Nat) (F:Nat→UInt8):Prop where
 lt:g<w.heap.size
 c: ∀j,j<n→w.cell? ⟨g,j,none⟩=some (.int .u8 ((F j).toNat:Int))
 f: ∀j,j<n→w.frozen? ⟨g,j,none⟩=false
theorem Arr.below {w w':World} {g n:Nat} {F:Nat→UInt8} (h:Arr w g n F) (hb:Below w.heap.size w w'):Arr w' g n F:=
 ⟨Nat.lt_of_lt_of_le h.lt hb.size,fun j hj=>(hb.cell (p:=⟨g,j,none⟩) h.lt).trans (h.c j hj),fun j hj=>(World.frozen?_of_block (w:=w) (hb.block g h.lt)).trans (h.f j hj)⟩
theorem Arr.put {w:World} {g n:Nat} {F F':Nat→UInt8} (h:Arr w g n F) (m:Nat) (x:UInt8) (hm:m<n) (he: ∀j,j<n→F' j=if j=m then x else F j):Arr (w.setCell ⟨g,m,none⟩ (.int .u8 (x.toNat:Int))) g n F':=by
 refine⟨by simpa [World.setCell]using h.lt,fun j hj=>?_,fun j hj=>by rw[World.frozen?_setCell];exact h.f j hj⟩;rw[he j hj];by_cases e:j=m
 ·subst e
  rw[if_pos rfl,World.cell?_setCell_same' _ _ _ (by rw[h.c j hj];rfl)]
 ·rw[if_neg e,World.cell?_setCell_other _ _ _ _ (fun h:(⟨g,m,none⟩:Addr)=⟨g,j,none⟩=>e (congrArg Addr.off h).symm)]
  exact h.c j hj
theorem Arr.str {w:World} {g n:Nat} {F:Nat→UInt8} (h:Arr w g n F) (cap:Nat):(convert 90 9 (.slice (some ⟨g,0,none⟩) n cap)).run Tryz.prog w= .ok (.string (St.str ((List.range n).map F))) w:=by
 have:=run_convert_bytes_arg (P:=Tryz.prog) w 90 5 Tryz.underlying90 Tryz.underlying5 g 0 n cap ((List.range n).map fun i=>((F i).toNat:Int)) (by simp) (fun i hi=>by
  rw[Nat.zero_add,h.c i hi];simp[hi]) 9 Tryz.underlying9
 rw[this,nums_str]
 congr 3
 simp
theorem Arr.ext {w:World} {g n:Nat} {F:Nat→UInt8} (h:Arr w g n F) (p:Ext):Arr (Q.ext w p) g n F:=h.below (below_ext w p)
end Go.Proofs.YtibjkhepedfpiaaGreatDoor.MdD
namespace Go.Proofs.YtibjkhepedfpiaaGreatDoor.MdE
open Go Go.RowKit Q Mem Rg Ap St BiW BiG Ints CrB TbM GfP PoP RsP GfA PoA PoB RsB MdA MdB MdC MdP MdD
set_option maxRecDepth 100000
theorem elemI:Elem Tryz.prog 41 3 1 8:=elem_of Tryz.underlying41 (z:= .int .i64 0) (by kernel_rfl) rfl (by decide)
end Go.Proofs.YtibjkhepedfpiaaGreatDoor.MdE
