import Derived.Test.YtbiiehobfnbloaaGreatDoorTpTpP
import Derived.Test.YtbiiehobfnbloaaGreatDoorTpTpM
import Derived.Test.YtbiiehobfnbloaaGreatDoorTpJnE
import Derived.Test.YtbiiehobfnbloaaGreatDoorTpBuT
namespace Go.Proofs.YtbiiehobfnbloaaGreatDoor.TpW
open Go Go.RowKit Q Mem Rg Ap St BiH CrB Ints Tab TbM TbO TbP PaA PaR PaP PaN PaK FrA FrB FrC LaA LaH BuE BuI BuL BuN BuP BoP JnP JnS JnA JnD JnE FrG TpM TpP
def Tyb (w : World) (i : Nat) (t : TypeId) : Prop := ∃ cs p, w.heap[i]? = some (.cells cs t p)
theorem Tyb.uniq {w : World} {i : Nat} {t t' : TypeId} (h : Tyb w i t) (h' : Tyb w i t') : t = t' := by
 obtain ⟨cs, p, e⟩ := h
 obtain ⟨cs', p', e'⟩ := h'
 rw [e] at e'
 injection e' with e'
 injection e'
theorem tyb_blk {w : World} {i : Nat} {t : TypeId} {cs : Array Value} (h : Blk w i t cs) : Tyb w i t := ⟨_, _, h⟩
theorem tyb_own {w : World} {B n sz i : Nat} {e : TypeId} {v : Value} {xs : List Value} (h : w.ownsRow B e sz v n xs) (hi : v.ownBlock = some i) : Tyb w i e := by
 rcases h.2 with ⟨h1, _⟩ | ⟨g, cap, cur, h1, _, h3, _⟩
 · rw [h1] at hi; cases hi
 · rw [h1] at hi
   injection hi with hi
   subst hi
   exact ⟨_, _, h3⟩
theorem ga_off {w : World} {B g gt gr : Nat} {v : Value} {S : Tb} {mac : Int} {n i : Nat} {t : TypeId} (h : GaA w B g gt gr v S mac n) (hi : Tyb w i t) (h1 : t ≠ 142) (h2 : t ≠ 233) (h3 : t ≠ 259) (h4 : t ≠ 3) : ¬ footG g gt gr v i := by
 rintro (e | e | e | e)
 · subst e; exact h1 (hi.uniq (tyb_blk h.box))
 · subst e; exact h2 (hi.uniq (tyb_blk h.t.box))
 · subst e
   obtain ⟨cs, h5, _⟩ := h.t.rows
   exact h3 (hi.uniq ⟨_, _, h5⟩)
 · exact h4 (hi.uniq (tyb_own h.t.st e))
theorem ga_kept {w w' : World} {B g gt gr : Nat} {v : Value} {S : Tb} {mac : Int} {n : Nat} {F : Nat → Prop} (h : GaA w B g gt gr v S mac n) (k : Kept F w w') (hF : ∀ i, footG g gt gr v i → ¬ F i) : GaA w' B g gt gr v S mac n :=
 ⟨⟨(k.block g (Blk.lt h.box) (hF g (Or.inl rfl))).trans h.box, h.t.kept k (fun i hi => hF i (Or.inr hi)), h.gb⟩, h.ap⟩
theorem ga_new {w : World} {B g gt gr : Nat} {S : Tb} {mac : Int} {n : Nat} (h : GaIn w B g gt gr (.slice none 0 0) S mac n) : GaA w B g gt gr (.slice none 0 0) S mac n :=
 ⟨h, fun e => e.elim (fun e => Blk.ne_ h.box h.t.box (by decide) e) (fun e => e.elim (fun e => Blk.fm_ne h.box h.t.rows (by decide) e.symm) (fun e => by cases e))⟩
structure Pp (W0 W : World) (gj : Nat) (j : Jn) (Bg gg gt gr : Nat) (v : Value) (T : Tb) (mac : Int) (n : Nat) (Bp : Nat) (pv : Value) (PP : List ByteArray) : Prop where
 jn : JnIn W gj j
 ga : GaA W Bg gg gt gr v T mac n
 pc : W.ownsRow Bp 9 1 pv PP.length (flat enS PP)
 old : Below gj W0 W
 jg : gj < Bg
 gp : gj < Bp
section
variable {W0 W W' : World} {gj Bg gg gt gr Bp n : Nat} {j j' : Jn} {v pv : Value} {T : Tb} {mac : Int} {PP : List ByteArray}
theorem Pp.jstep (h : Pp W0 W gj j Bg gg gt gr v T mac n Bp pv PP) (k : JnOk W W' gj j') : Pp W0 W' gj j' Bg gg gt gr v T mac n Bp pv PP :=
 ⟨k.j, ga_kept h.ga k.k (fun i hi e => by have h1 := (h.ga.ge i hi).1; have h2 := h.jg; omega), FrA.own_kept h.pc k.k (fun i hi e => by have h1 := (h.pc.lt i hi).1; have h2 := h.gp; omega),
   h.old.trans (k.k.be (Nat.le_of_lt (Blk.lt h.jn)) (fun i hi => Nat.le_of_eq hi.symm)), h.jg, h.gp⟩
theorem Pp.tstep {v' : Value} {T' : Tb} {n' : Nat} (h : Pp W0 W gj j Bg gg gt gr v T mac n Bp pv PP) (ha : GaA W' Bg gg gt gr v' T' mac n') (k : Kept (footG gg gt gr v) W W') : Pp W0 W' gj j Bg gg gt gr v' T' mac n' Bp pv PP :=
 ⟨(k.block gj (Blk.lt h.jn) (fun e => by have h1 := (h.ga.ge gj e).1; have h2 := h.jg; omega)).trans h.jn, ha, FrA.own_kept h.pc k (fun i hi => ga_off h.ga (tyb_own h.pc hi) (by decide) (by decide) (by decide) (by decide)),
   h.old.trans (k.be (Nat.le_of_lt (Blk.lt h.jn)) (fun i hi => by have h1 := (h.ga.ge i hi).1; have h2 := h.jg; omega)), h.jg, h.gp⟩
theorem Pp.below (h : Pp W0 W gj j Bg gg gt gr v T mac n Bp pv PP) (hb : Below W.heap.size W W') : Pp W0 W' gj j Bg gg gt gr v T mac n Bp pv PP :=
 ⟨h.jn.below hb, h.ga.below hb, own_below h.pc hb, h.old.trans (hb.mono (Nat.le_of_lt (Blk.lt h.jn))), h.jg, h.gp⟩
end
theorem mk_call (W : World) (B gf gr : Nat) (v : Value) (F : Fr) (mc : Int) (hT : Tab 3 W) (hG : 3 < B) (hf : FrIn W B gf gr v F) (hF : FrS F) (hmc : 0 ≤ mc ∧ mc ≤ 65535) :
   Calls Tryz.prog 12 #[.pointer (some ⟨gf, 0, none⟩), .int .i64 mc] W fun e w' => ∃ (mb mo c : Nat), e = .returned (.tuple #[.slice (some ⟨mb, mo, none⟩) (mkL F mc).length c, .int .i64 0]) ∧ Slc w' (some ⟨mb, mo, none⟩) (mkL F mc).length c (mkL F mc) ∧ FrIn w' B gf gr v (parS F (64 - F.K)) ∧ Kept (footF gf gr v) W w' ∧ mb < w'.heap.size ∧ (mkL F mc).length ≤ c :=
 (make_any W B gf gr v F mc hT hG hf hF.mks.ok hF.mks.K hF.mks.good hF.n0 (hF.mks.pos hF.n0) hF.mks.col).mono (fun e w' h => by
   obtain ⟨v', h1, h2⟩ := h.ok hmc
   obtain ⟨a, c, rfl, h3⟩ := own_slc h2 rfl
   have hN0 : (mkL F mc).length ≠ 0 := by rw [mkL_len]; have := hF.n0; omega
   cases a with
   | none => exact absurd (h3.nil rfl).1 hN0
   | some a' =>
     obtain ⟨b, o, rfl⟩ := h3.form a' rfl
     exact ⟨b, o, c, h1, h3, h.fr, h.kept, (h2.lt b rfl).2, by obtain ⟨_, _, e, h9⟩ := ApG.own_cap h2; injection e with _ _ e; rw [e]; exact h9⟩)
theorem jn_newO {pid : Int} (hp : 0 ≤ pid ∧ pid < 8191) (c : Nat) {S : List ByteArray} (h : ∀ s ∈ S, paE s = 0) {k : Nat} (hk : k < nP (S.map ByteArray.size)) : JnP.feed (jnK pid c S k) (pkO pid c S k) = ⟨newO S k, 0, jnK pid c S (k + 1)⟩ := by
 have h1 := jn_new hp c h hk
 rwa [(byt_dp hp c S k ((bst_of h).more k hk)).2] at h1
theorem pack_call (pid : Int) (c : Nat) (ci : Int) (K : Nat) (a : Option Addr) (n cp : Nat) (L : List ByteArray) (w : World) (hci : ci = (c : Int)) (hK : nP (L.map ByteArray.size) = K) (hp : 0 ≤ pid ∧ pid < 8191) (hc : c < 16) (hn : L.length = n) (hl : n ≤ 1000) (hcap : n ≤ cp) (hL : Seq enS 1 w a L) (hs : ∀ s ∈ L, s.size ≤ 5000) (hpa : ∀ s ∈ L, paE s = 0) :
   Calls Tryz.prog 13 #[.int .i64 pid, .int .i64 ci, .slice a n cp] w fun e w' => (∃ ao cap, e = .returned (.tuple #[.slice ao K cap, .int .i64 ((c + K) % 16 : Nat), .int .i64 0]) ∧ Seq enPk 5 w' ao (pks pid c L K)) ∧ Below w.heap.size w w' := by
 subst hci hK
 exact (pack_any pid c a n cp L w hp.1 hp.2 hc hn (by omega) hcap hL (fun s h => by have := hs s h; omega)).mono (fun e w' h => ⟨by have h1 := h.1; rw [if_pos (first_all hpa)] at h1; exact h1, h.2⟩)
structure OneF (F : Fr) (s : ByteArray) : Prop where
 frs : FrS F
 mkl : mkL F 5 = [s]
 np : nP ([s].map ByteArray.size) = 1
 sz : s.size ≤ 100
 pa : ∀ x ∈ [s], paE x = 0
theorem one_f : ∃ s, OneF (frD 256 191 64 (gramL 1 [30])) s := by
 have hA := (all_in (R := 256) (C := 191) (K := 64) (D := gramL 1 [30]) gramL_ok (Nat.le_trans (gramL_sum (by decide)) (by decide)) 1 (by rw [gramL_len]; decide)).1
 rw [List.take_of_length_le (by rw [gramL_len]; decide)] at hA
 have hD : gramL 1 [30] = [madeD 30 1] := rfl
 have hR := frD_R 256 191 64 (gramL 1 [30])
 have hfr := fun h0 => frs_D (C := 191) (K := 64) (by decide) (by decide) (gramL 1 [30]) (by rw [gramL_len]; decide) h0
 obtain ⟨F, hF⟩ : ∃ F, frD 256 191 64 (gramL 1 [30]) = F := ⟨_, rfl⟩
 rw [hF] at hA hR hfr ⊢
 have ht := hA.t
 rw [hD] at ht
 have hl : F.L.length = 1 := by have := congrArg List.length ht; simpa using this
 have hfs := hfr (by omega)
 obtain ⟨x, hx⟩ : ∃ x, F.L[0]? = some x := ⟨_, List.getElem?_eq_getElem (by omega)⟩
 have hx2 : x.2 = madeD 30 1 := by
   have h1 : (F.L.map (·.2))[0]? = some x.2 := by rw [List.getElem?_map, hx]; rfl
   rw [ht] at h1
   simpa using h1.symm
 have hml := mkL_len F 5
 rw [hl, hR.2.2] at hml
 have hs := mk_m hx 5
 obtain ⟨s, hs'⟩ : ∃ s, mkL F 5 = [s] := by
   cases h : mkL F 5 with
   | nil => rw [h] at hml; simp at hml
   | cons a t =>
     rw [h] at hml
     have : t = [] := List.eq_nil_of_length_eq_zero (by simpa using hml)
     exact ⟨a, by rw [this]⟩
 have hc : (BuC.gp F.L 5 (decide (64 - F.K = 0)) 0).chk = 0 := by rw [BuC.gp_chk hfs.mks.good hx, if_pos (by decide)]
 have hsz : s.size = 66 := by
   rw [hs'] at hs
   injection hs with hs
   rw [hs, MpP.enc_size hc, BuC.gp_get hx, hx2]
   show (madeD 30 1).size + 16 = 66
   rw [(made_ok 30 1).2]
   rfl
 refine ⟨s, hfs, hs', ?_, by omega, ?_⟩
 · have h1 := nP_le ([s].map ByteArray.size)
   have h2 := nP_bytes ([s].map ByteArray.size)
   simp only [List.map_cons, List.map_nil, List.sum_cons, List.sum_nil, hsz] at h1 h2 ⊢
   omega
 · rw [← hs']
   exact mk_all hfs
set_option maxRecDepth 100000
set_option maxHeartbeats 3200000 in
theorem awake_any (w : World) (hT : Tab 3 w) (hF : Tab 1 w) : Calls Tryz.prog 10 #[] w fun e w' => e = .returned (.bool true) ∧ Below w.heap.size w w' := by
 obtain ⟨s, hO⟩ := one_f
 have HO := Lib.hid hO
 have hbe := (Below.refl w.heap.size w).alloc (Nat.le_refl _) (.cells #[.int .i64 30] 3)
 have hB := Blk.new w 3 #[.int .i64 30]
 have km := tmade_any 64 (some ⟨w.heap.size, 0, none⟩) 1 1 [30] (w.alloc (.cells #[.int .i64 30] 3)) (hF.be hbe) rfl (by decide) (ints_blk hB rfl) (by decide) (by decide)
 have HT := Lib.hid hT
 have HBE := Lib.hid hbe
 clear hO hT hF hbe hB
 go_enter Tryz.func10, Tryz.ntmps10
 go_wp2_with fail
 (with_reducible refine (km).mono ?_); rintro e1 W1 ⟨⟨k, gf, gr, v, hk, _, rfl, hf⟩, hb1⟩
 obtain rfl : k = 64 := by omega
 obtain ⟨V, hV⟩ : ∃ V, w.alloc (.cells #[.int .i64 30] 3) = V := ⟨_, rfl⟩
 rw [hV] at hb1 hf HBE
 have HB1 := Lib.hid (HBE.out.trans (hb1.mono HBE.out.size))
 have HV1 := Lib.hid hb1
 obtain ⟨F, hFe⟩ : ∃ F, frD 256 191 64 (gramL 1 [30]) = F := ⟨_, rfl⟩
 rw [hFe] at hf HO
 have kk := mk_call W1 V.heap.size gf gr v F 5 (HT.out.be HB1.out) (HT.out.be HBE.out).lt hf HO.out.frs (by decide)
 rw [HO.out.mkl] at kk
 have HF1 := Lib.hid hf
 clear km hk hb1 hf hFe
 go_wp2_with fail
 (with_reducible refine (kk).mono ?_); rintro e2 W2 ⟨mb, mo, c, rfl, hsl, hf2, hk2, hmb, hcap⟩
 have HB2 := Lib.hid (HB1.out.trans ((hk2.be (B := V.heap.size) HV1.out.size (fun i hi => (HF1.out.ge i hi).1)).mono HBE.out.size))
 have HSL := Lib.hid hsl
 have kp := pack_call 17 0 0 1 (some ⟨mb, mo, none⟩) 1 c [s] W2 rfl HO.out.np (by decide) (by decide) rfl (by decide) hcap hsl.s (by intro x hx; obtain rfl := List.mem_singleton.1 hx; have := HO.out.sz; omega) HO.out.pa
 have HMB := Lib.hid hmb
 clear kk hsl hf2 hk2 hmb hcap
 go_wp2_with fail
 (with_reducible refine (kp).mono ?_); rintro e3 W3 ⟨⟨ao, cap, rfl, hsp⟩, hb3⟩
 have HMB3 := Lib.hid (Nat.lt_of_lt_of_le HMB.out hb3.size)
 have HB3 := Lib.hid (HB2.out.trans (hb3.mono HB2.out.size))
 have HSP := Lib.hid hsp
 have HSL3 := Lib.hid (HSL.out.below hb3)
 have kj := new_yes 17 W3 (by decide)
 clear kp hb3 hsp
 go_wp2_with fail
 (with_reducible refine (kj).mono ?_); rintro e4 W4 ⟨rfl, hj, hb4⟩
 have HB4 := Lib.hid (HB3.out.trans (hb4.mono HB3.out.size))
 obtain ⟨b0, o0, rfl, hlt, hc⟩ := (HSP.out.below (Nat.le_refl _) hb4) 0 (pkI 17 0 [s] 0) rfl
 have HSL4 := Lib.hid (HSL3.out.below hb4)
 have kf := feed_any W4 W3.heap.size (jnK 17 0 [s] 0) (pkO 17 0 [s] 0) hj (by show (0 : Nat) ≤ 800000; omega) (by show (0 : Int) ≤ 0 ∧ (0 : Int) ≤ 15; omega) (by show (0 : Nat) ≤ 1000000000; omega)
 rw [jn_newO (by decide) 0 HO.out.pa (by rw [HO.out.np]; decide)] at kf
 have hn : newO [s] 0 = [s] := by
   have h1 := outs_end HO.out.pa
   rw [HO.out.np, outs_succ] at h1
   exact h1
 rw [hn] at kf
 have hpv : pkV (pkO 17 0 [s] 0) = #[.int .i64 (pkI 17 0 [s] 0).pid, .bool (pkI 17 0 [s] 0).start, .int .i64 (pkI 17 0 [s] 0).count, .bool false, .string (pkI 17 0 [s] 0).body] := rfl
 rw [hpv] at kf
 obtain ⟨P, hP⟩ : ∃ P, pkI 17 0 [s] 0 = P := ⟨_, rfl⟩
 rw [hP] at kf hc
 have hq : ∀ (i : Nat) (u : Value), (enPk P)[i]? = some u → W4.cell? ⟨b0, o0 + i, none⟩ = some u := fun i u h => by have := hc i u h; simpa [off_eq] using this
 have q0 : W4.cell? ⟨b0, o0, none⟩ = some (.int .i64 P.pid) := hq 0 _ rfl
 have q1 : W4.cell? ⟨b0, o0 + 1, none⟩ = some (.bool P.start) := hq 1 _ rfl
 have q2 : W4.cell? ⟨b0, o0 + 2, none⟩ = some (.int .i64 P.count) := hq 2 _ rfl
 have q3 : W4.cell? ⟨b0, o0 + 3, none⟩ = some (.bool false) := hq 3 _ rfl
 have q4 : W4.cell? ⟨b0, o0 + 4, none⟩ = some (.string P.body) := hq 4 _ rfl
 obtain ⟨b1, o1, hbo, hlt1, hc1⟩ := HSL4.out.s 0 s rfl
 injection hbo with hbo
 injection hbo with e1 e2
 subst e1 e2
 have R0 : Hid (W4.cell? ⟨mb, mo, none⟩ = some (.string s)) := Lib.hid (hc1 0 _ rfl)
 have HLT := Lib.hid hlt1
 clear kj hj hb4 hc hq hn hpv hP hc1 hlt1 hlt
 go_wp2_with fail
 (with_reducible refine (kf).mono ?_); rintro e5 W5 ⟨⟨v5, rfl, hown⟩, hj5⟩
 have HB5 := Lib.hid (HB4.out.trans (hj5.k.be HB4.out.size (fun i hi => by rw [hi]; exact HB3.out.size)))
 obtain ⟨a5, c5, rfl, hs5⟩ := own_slc hown rfl
 obtain ⟨b5, o5, rfl, hlt5, hc5⟩ := hs5.s 0 s rfl
 have z5 : W5.cell? ⟨b5, o5, none⟩ = some (.string s) := hc5 0 _ rfl
 have z6 : W5.cell? ⟨mb, mo, none⟩ = some (.string s) := (hj5.k.cell (p := ⟨mb, mo, none⟩) HLT.out (by show ¬ mb = W3.heap.size; have := HMB3.out; omega)).trans R0.out
 have y5 := fun pX => ((below_ext W5 pX).cell (p := ⟨b5, o5, none⟩) hlt5).trans z5
 have y6 := fun pX => ((below_ext W5 pX).cell (p := ⟨mb, mo, none⟩) (World.block_lt_of_cell? W5 _ z6)).trans z6
 have t5 : (s.toList == s.toList) = true := beq_self_eq_true _
 clear kf q0 q1 q2 q3 q4 hown hj5 hs5 hlt5 hc5 z5 z6
 go_wp2_with fail
 refine Go.Proofs.YtbiiehobfnbloaaGreatDoor.Q.region_ext (by kernel_rfl) (by kernel_rfl) ?_
 repeat (go_big_quiet_step (fail))
 refine wpQuiet_nil ?_
 rintro w9 ⟨pq, rfl⟩
 have hb9 := HB5.out.trans ((below_ext W5 pq).mono HB5.out.size)
 go_wp2_with fail
 go_ret
 exact ⟨rfl, hb9⟩
end Go.Proofs.YtbiiehobfnbloaaGreatDoor.TpW
