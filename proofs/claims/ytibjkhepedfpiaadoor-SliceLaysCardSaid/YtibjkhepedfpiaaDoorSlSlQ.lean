import Derived.Test.YtibjkhepedfpiaaDoorSlSlP
namespace Go.Proofs.YtibjkhepedfpiaaDoor.SlQ
open Go Go.RowKit Q Mem Rg Ap St CrB CrC SeI SeC DgN MpA MpP PaA PaK PaP SlM SlA SlB SlC SlP
theorem len_le (p:Pc):p.len≤4000:=by unfold Pc.len;omega
theorem bytes_size (p:Pc) (h:p.text.size≤5000) (hb:p.b<256):p.bytes.size≤5000:=by
 have hl:=len_le p;unfold Pc.bytes
 split
 ·split
  ·have h1:=gramP_ok p.b p.len hb hl
   have h2:=enc_size h1;have h3:(gramP p.b p.len).enc=bytesS (gramP p.b p.len).sec:=if_pos h1;have h4:(gramP p.b p.len).text.size=20+(str (bodyL p.b p.len)).size:=(mk_ok _ _ _ 17 rfl rfl (by rw[←bl_len,bl_str,body_len];omega)).2;have h5:(str (bodyL p.b p.len)).size=p.len:=by rw[←bl_len,bl_str,body_len]
   rw[←h3,h2,h4,h5];omega
  ·rw[←bl_len,bl_str,seal_len,List.length_append,body_len]
   show 8+p.len+4≤5000;omega
 ·exact h
theorem own_cap {w:World} {B n sz:Nat} {e:TypeId} {v:Value} {xs:List Value} (h:w.ownsRow B e sz v n xs): ∃a c,v= .slice a n c∧n≤c:=by
 rcases h.2 with⟨e1,e0⟩|⟨g,cap,cur,e1,_,_,hc,_⟩
 ·exact⟨none,0,by rw[e1,e0],by omega⟩
 ·exact⟨some ⟨g,0,none⟩,cap,e1,hc⟩
set_option maxRecDepth 100000
end Go.Proofs.YtibjkhepedfpiaaDoor.SlQ
