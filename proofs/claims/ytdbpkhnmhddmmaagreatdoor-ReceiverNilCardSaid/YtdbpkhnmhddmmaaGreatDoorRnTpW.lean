import Derived.Test.YtdbpkhnmhddmmaaGreatDoorRnTpP
import Derived.Test.YtdbpkhnmhddmmaaGreatDoorRnTpM
import Derived.Test.YtdbpkhnmhddmmaaGreatDoorRnJnE
import Derived.Test.YtdbpkhnmhddmmaaGreatDoorRnBuT
namespace Go.Proofs.YtdbpkhnmhddmmaaGreatDoor.TpW
open Go Go.RowKit Q Mem Rg Ap St BiH CrB Ints Tab TbM TbO TbP PaA PaR PaP PaN PaK FrA FrB FrC LaA LaH BuE BuI BuL BuN BuP BoP JnP JnS JnA JnD JnE FrG TpM TpP
def Tyb (w:World) (i:Nat) (t:TypeId):Prop:= ∃cs p,w.heap[i]? =some (.cells cs t p)
theorem Tyb.uniq {w:World} {i:Nat} {t t':TypeId} (h:Tyb w i t) (h':Tyb w i t'):t=t':=by
 obtain⟨cs,p,e⟩:=h;obtain⟨cs',p',e'⟩:=h';rw[e]at e';injection e' with e'
 injection e'
theorem tyb_blk {w:World} {i:Nat} {t:TypeId} {cs:Array Value} (h:Blk w i t cs):Tyb w i t:=⟨_,_,h⟩
theorem tyb_own {w:World} {B n sz i:Nat} {e:TypeId} {v:Value} {xs:List Value} (h:w.ownsRow B e sz v n xs) (hi:v.ownBlock=some i):Tyb w i e:=by
 rcases h.2 with⟨h1,_⟩|⟨g,cap,cur,h1,_,h3,_⟩
 ·rw[h1]at hi;cases hi
 ·rw[h1]at hi
  injection hi with hi
  subst hi;exact⟨_,_,h3⟩
theorem ga_off {w:World} {B g gt gr:Nat} {v:Value} {S:Tb} {mac:Int} {n i:Nat} {t:TypeId} (h:GaA w B g gt gr v S mac n) (hi:Tyb w i t) (h1:t≠91) (h2:t≠159) (h3:t≠229) (h4:t≠3): ¬footG g gt gr v i:=by
 rintro(e|e|e|e)
 ·subst e;exact h1 (hi.uniq (tyb_blk h.box))
 ·subst e;exact h2 (hi.uniq (tyb_blk h.t.box))
 ·subst e
  obtain⟨cs,h5,_⟩:=h.t.rows;exact h3 (hi.uniq ⟨_,_,h5⟩)
 ·exact h4 (hi.uniq (tyb_own h.t.st e))
theorem ga_kept {w w':World} {B g gt gr:Nat} {v:Value} {S:Tb} {mac:Int} {n:Nat} {F:Nat→Prop} (h:GaA w B g gt gr v S mac n) (k:Kept F w w') (hF: ∀i,footG g gt gr v i→ ¬F i):GaA w' B g gt gr v S mac n:=
 ⟨⟨(k.block g (Blk.lt h.box) (hF g (Or.inl rfl))).trans h.box,h.t.kept k (fun i hi=>hF i (Or.inr hi)),h.gb⟩,h.ap⟩
theorem ga_new {w:World} {B g gt gr:Nat} {S:Tb} {mac:Int} {n:Nat} (h:GaIn w B g gt gr (.slice none 0 0) S mac n):GaA w B g gt gr (.slice none 0 0) S mac n:=
 ⟨h,fun e=>e.elim (fun e=>Blk.ne_ h.box h.t.box (by decide) e) (fun e=>e.elim (fun e=>Blk.fm_ne h.box h.t.rows (by decide) e.symm) (fun e=>by cases e))⟩
structure Pp (W0 W:World) (gj:Nat) (j:Jn) (Bg gg gt gr:Nat) (v:Value) (T:Tb) (mac:Int) (n:Nat) (Bp:Nat) (pv:Value) (PP:List ByteArray):Prop where
 jn:JnIn W gj j
 ga:GaA W Bg gg gt gr v T mac n
 pc:W.ownsRow Bp 9 1 pv PP.length (flat enS PP)
 old:Below gj W0 W
 jg:gj<Bg
 gp:gj<Bp
section
variable {W0 W W':World} {gj Bg gg gt gr Bp n:Nat} {j j':Jn} {v pv:Value} {T:Tb} {mac:Int} {PP:List ByteArray}
theorem Pp.below (h:Pp W0 W gj j Bg gg gt gr v T mac n Bp pv PP) (hb:Below W.heap.size W W'):Pp W0 W' gj j Bg gg gt gr v T mac n Bp pv PP:=
 ⟨h.jn.below hb,h.ga.below hb,own_below h.pc hb,h.old.trans (hb.mono (Nat.le_of_lt (Blk.lt h.jn))),h.jg,h.gp⟩
end
theorem mk_call (W:World) (B gf gr:Nat) (v:Value) (F:Fr) (mc:Int) (hT:Tab 4 W) (hG:4<B) (hf:FrIn W B gf gr v F) (hF:FrS F) (hmc:0≤mc∧mc≤65535):
 Calls Tryz.prog 65 #[.pointer (some ⟨gf,0,none⟩),.int .i64 mc] W fun e w'=> ∃(mb mo c:Nat),e= .returned (.tuple #[.slice (some ⟨mb,mo,none⟩) (mkL F mc).length c,.int .i64 0])∧Slc w' (some ⟨mb,mo,none⟩) (mkL F mc).length c (mkL F mc)∧FrIn w' B gf gr v (parS F (64-F.K))∧Kept (footF gf gr v) W w'∧mb<w'.heap.size∧(mkL F mc).length≤c:=
 (make_any W B gf gr v F mc hT hG hf hF.mks.ok hF.mks.K hF.mks.good hF.n0 (hF.mks.pos hF.n0) hF.mks.col).mono (fun e w' h=>by
  obtain⟨v',h1,h2⟩:=h.ok hmc;obtain⟨a,c,rfl,h3⟩:=own_slc h2 rfl;have hN0:(mkL F mc).length≠0:=by rw[mkL_len];have:=hF.n0;omega
  cases a with
  |none=>exact absurd (h3.nil rfl).1 hN0
  |some a'=>
   obtain⟨b,o,rfl⟩:=h3.form a' rfl;exact⟨b,o,c,h1,h3,h.fr,h.kept,(h2.lt b rfl).2,by obtain⟨_,_,e,h9⟩:=ApG.own_cap h2;injection e with _ _ e;rw[e];exact h9⟩)
theorem pack_call (pid:Int) (c:Nat) (ci:Int) (K:Nat) (a:Option Addr) (n cp:Nat) (L:List ByteArray) (w:World) (hci:ci=(c:Int)) (hK:nP (L.map ByteArray.size)=K) (hp:0≤pid∧pid<8191) (hc:c<16) (hn:L.length=n) (hl:n≤1000) (hcap:n≤cp) (hL:Seq enS 1 w a L) (hs: ∀s∈L,s.size≤5000) (hpa: ∀s∈L,paE s=0):
 Calls Tryz.prog 35 #[.int .i64 pid,.int .i64 ci,.slice a n cp] w fun e w'=>(∃ao cap,e= .returned (.tuple #[.slice ao K cap,.int .i64 ((c+K)%16:Nat),.int .i64 0])∧Seq enPk 5 w' ao (pks pid c L K))∧Below w.heap.size w w':=by
 subst hci hK;exact(pack_any pid c a n cp L w hp.1 hp.2 hc hn (by omega) hcap hL (fun s h=>by have:=hs s h;omega)).mono (fun e w' h=>⟨by have h1:=h.1;rw[if_pos (first_all hpa)]at h1;exact h1,h.2⟩)
structure OneF (F:Fr) (s:ByteArray):Prop where
 frs:FrS F
 mkl:mkL F 5=[s]
 np:nP ([s].map ByteArray.size)=1
 sz:s.size≤100
 pa: ∀x∈[s],paE x=0
theorem one_f: ∃s,OneF (frD 256 191 64 (gramL 1 [30])) s:=by
 have hA:=(all_in (R:=256) (C:=191) (K:=64) (D:=gramL 1 [30]) gramL_ok (Nat.le_trans (gramL_sum (by decide)) (by decide)) 1 (by rw[gramL_len];decide)).1;rw[List.take_of_length_le (by rw[gramL_len];decide)]at hA;have hD:gramL 1 [30]=[madeD 30 1]:=rfl;have hR:=frD_R 256 191 64 (gramL 1 [30]);have hfr:=fun h0=>frs_D (C:=191) (K:=64) (by decide) (by decide) (gramL 1 [30]) (by rw[gramL_len];decide) h0;obtain⟨F,hF⟩: ∃F,frD 256 191 64 (gramL 1 [30])=F:=⟨_,rfl⟩;rw[hF]at hA hR hfr ⊢;have ht:=hA.t;rw[hD]at ht;have hl:F.L.length=1:=by have:=congrArg List.length ht;simpa using this
 have hfs:=hfr (by omega);obtain⟨x,hx⟩: ∃x,F.L[0]? =some x:=⟨_,List.getElem?_eq_getElem (by omega)⟩
 have hx2:x.2=madeD 30 1:=by
  have h1:(F.L.map (·.2))[0]? =some x.2:=by rw[List.getElem?_map,hx];rfl
  rw[ht]at h1;simpa using h1.symm
 have hml:=mkL_len F 5;rw[hl,hR.2.2]at hml;have hs:=mk_m hx 5
 obtain⟨s,hs'⟩: ∃s,mkL F 5=[s]:=by
  cases h:mkL F 5 with
  |nil=>rw[h]at hml;simp at hml
  |cons a t=>
   rw[h]at hml;have:t=[]:=List.eq_nil_of_length_eq_zero (by simpa using hml);exact⟨a,by rw[this]⟩
 have hc:(BuC.gp F.L 5 (decide (64-F.K=0)) 0).chk=0:=by rw[BuC.gp_chk hfs.mks.good hx,if_pos (by decide)]
 have hsz:s.size=66:=by
  rw[hs']at hs;injection hs with hs
  rw[hs,MpP.enc_size hc,BuC.gp_get hx,hx2];show(madeD 30 1).size+16=66;rw[(made_ok 30 1).2];rfl
 refine⟨s,hfs,hs',?_,by omega,?_⟩
 ·have h1:=nP_le ([s].map ByteArray.size)
  have h2:=nP_bytes ([s].map ByteArray.size);simp only[List.map_cons,List.map_nil,List.sum_cons,List.sum_nil,hsz]at h1 h2 ⊢;omega
 ·rw[←hs']
  exact mk_all hfs
set_option maxRecDepth 100000
end Go.Proofs.YtdbpkhnmhddmmaaGreatDoor.TpW
