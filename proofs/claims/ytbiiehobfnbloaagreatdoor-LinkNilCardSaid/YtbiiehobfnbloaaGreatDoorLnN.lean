/- link: New (whether there is one). -/
import Derived.Test.YtbiiehobfnbloaaGreatDoorLnC
namespace Go.Proofs.YtbiiehobfnbloaaGreatDoor.LnN
open Go Go.RowKit Go.Maps Go.Proofs.YtbiiehobfnbloaaGreatDoor.Q Go.Proofs.YtbiiehobfnbloaaGreatDoor.Mem Go.Proofs.YtbiiehobfnbloaaGreatDoor.Rg Go.Proofs.YtbiiehobfnbloaaGreatDoor.Ap Go.Proofs.YtbiiehobfnbloaaGreatDoor.Tab Go.Proofs.YtbiiehobfnbloaaGreatDoor.TlS Go.Proofs.YtbiiehobfnbloaaGreatDoor.FrA Go.Proofs.YtbiiehobfnbloaaGreatDoor.LnP Go.Proofs.YtbiiehobfnbloaaGreatDoor.LnA Go.Proofs.YtbiiehobfnbloaaGreatDoor.LnC

theorem enSm_one : ∀ x, ∀ u ∈ enSm x, u.oneCell' = true := fun x u hu => by
  simp only [enSm, List.mem_cons, List.not_mem_nil, or_false] at hu
  rcases hu with rfl | rfl | rfl | rfl | rfl <;> rfl
theorem elemSm : Elem Tryz.prog 61 77 5 40 := elem_of Tryz.underlying61 (z := .agg #[.int .i64 0, .int .i64 0, .int .i64 0, .int .i64 0, .int .i64 0]) (by kernel_rfl) rfl (by decide)
theorem elemFp : Elem Tryz.prog 70 25 1 8 := elem_of Tryz.underlying70 (z := .pointer none) (by kernel_rfl) rfl (by decide)
theorem seqG {α : Type} {en : α → List Value} {sz : Nat} {w w' : World} {g : Nat} {L : List α} (h : Seq en sz w (some ⟨g, 0, none⟩) L) (hs : w.heap.size ≤ w'.heap.size) (hb : w'.heap[g]? = w.heap[g]?) : Seq en sz w' (some ⟨g, 0, none⟩) L := fun i x hi => by
  obtain ⟨b, o, e, hlt, hc⟩ := h i x hi
  injection e with e
  injection e with e1 e2
  subst e1
  exact ⟨_, o, by rw [e2], Nat.lt_of_lt_of_le hlt hs, fun j u hj => (World.cell?_of_block (w := w) (w' := w') (a := ⟨g, _, none⟩) hb).trans (hc j u hj)⟩
structure Nw (w wr : World) (gl g : Nat) (a b c d e f t n cp : Value) (L : List Sm) (q : Nat) (fv : Value) : Prop where
  sq : Seq enSm 5 wr (some ⟨g, 0, none⟩) L
  bx : Blk wr gl 178 #[a, b, c, d, e, f, t, n, fv, cp]
  fr : ∃ xs, wr.ownsRow (gl + 1) 25 1 fv q xs
  be : Below w.heap.size w wr
  gw : w.heap.size ≤ gl
  gg : g < gl
section
variable {w wr W : World} {gl g q : Nat} {a b c d e f t n cp fv fv' : Value} {L : List Sm}
theorem Nw.below (h : Nw w wr gl g a b c d e f t n cp L q fv) (hb : Below wr.heap.size wr W) : Nw w W gl g a b c d e f t n cp L q fv :=
  ⟨h.sq.below (Nat.le_refl _) hb, h.bx.below hb h.bx.lt, let ⟨xs, k⟩ := h.fr; ⟨xs, own_below k hb⟩, h.be.trans (hb.mono h.be.size), h.gw, h.gg⟩
theorem Nw.put (h : Nw w wr gl g a b c d e f t n cp L q fv) {W8 : World} {xs : List Value} (hb : Below (gl + 1) wr W8) (ho : W8.ownsRow (gl + 1) 25 1 fv' (q + 1) xs) :
    Nw w (W8.setCell ⟨gl, 8, none⟩ fv') gl g a b c d e f t n cp L (q + 1) fv' := by
  have hB := h.bx.below hb (by omega)
  have hg := h.gg
  refine ⟨seqG h.sq (Nat.le_trans hb.size (by simp [World.setCell])) ((Below.heap_setCell W8 ⟨gl, 8, none⟩ fv' g (by show g ≠ gl; omega)).trans (hb.block g (by omega))), Blk.set_ hB 8 fv', ⟨xs, ?_⟩, ?_, h.gw, hg⟩
  · exact ho.kept (only_set (only_refl W8 (some gl)) 8 fv') (by
      cases hv : fv'.ownBlock with
      | none => exact Or.inl rfl
      | some r => exact Or.inr (fun e => by injection e with e; have := (ho.lt r hv).1; omega))
  · have h1 := h.gw
    have h2 : Below w.heap.size w W8 := h.be.trans (hb.mono (by omega))
    exact h2.trans (below_of_only (only_set (only_refl W8 (some gl)) 8 fv') h2.size (fun k hk => by injection hk with hk; omega))
end
theorem mayS_ok {s : Sm} (h : mayS s = true) : okC s.R s.C s.K = true := by unfold mayS at h; simp only [Bool.and_eq_true] at h; exact h.2
theorem upto_all {table : Int} {L : List Sm} {q : Nat} {s : Sm} (h : uptoB table L L.length = true) (hs : L[q]? = some s) : okC s.R s.C s.K = true := by
  unfold uptoB at h
  rw [List.all_eq_true] at h
  have hq := h q (List.mem_range.2 (List.getElem?_eq_some_iff.1 hs).1)
  rw [step_eq hs] at hq
  simp only [Bool.and_eq_true] at hq
  exact mayS_ok hq.1
set_option maxRecDepth 100000
set_option maxHeartbeats 3200000 in
theorem new_any (c : Cf) (a : Option Addr) (n cp : Nat) (L : List Sm) (w : World) (hT : Tab 1 w) (hn : L.length = n) (hl : n ≤ 1000) (hL : Seq enSm 5 w a L)
    (hu : -9223372036854775808 ≤ c.unit ∧ c.unit ≤ 9223372036854775807) (hg : -9223372036854775808 ≤ c.guard ∧ c.guard ≤ 9223372036854775807) (hm : -9223372036854775808 ≤ c.most ∧ c.most ≤ 9223372036854775807) (hp : -9223372036854775808 ≤ c.pat ∧ c.pat ≤ 9223372036854775807) :
    Calls Tryz.prog 27 #[.agg #[.int .i64 c.unit, .int .i64 c.guard, .int .i64 c.most, .int .i64 c.pat, .int .i64 c.gap, .int .i64 c.every, .int .i64 c.table, .slice a n cp]] w fun e w' => Below w.heap.size w w' ∧
      if okL c L then ∃ gl, e = .returned (.tuple #[.pointer (some ⟨gl, 0, none⟩), .int .i64 0]) else e = .returned (.tuple #[.pointer none, .int .i64 23]) := by
  have kc := check_any c a n cp L (w.alloc (.cells #[.int .i64 c.unit, .int .i64 c.guard, .int .i64 c.most, .int .i64 c.pat, .int .i64 c.gap, .int .i64 c.every, .int .i64 c.table, .slice a n cp] 63)) (hT.be ((Below.refl _ w).alloc (Nat.le_refl _) _)) hn hl (hL.below (Nat.le_refl _) ((Below.refl _ w).alloc (Nat.le_refl _) _)) hu hg hm hp
  unfold chkL at kc
  have HZ : Hid (okL c L = (mach c && rest c n && uptoB c.table L n)) := Lib.hid (by unfold okL; rw [hn])
  obtain ⟨Z, hZ⟩ : ∃ Z, okL c L = Z := ⟨_, rfl⟩
  rw [hZ] at kc HZ ⊢
  clear hZ hu hg hm hp
  obtain ⟨unit, guard, most, pat, gap, every, table⟩ := c
  dsimp only at kc HZ ⊢
  have hbe := (Below.refl _ w).alloc (Nat.le_refl _) (.cells #[.int .i64 unit, .int .i64 guard, .int .i64 most, .int .i64 pat, .int .i64 gap, .int .i64 every, .int .i64 table, .slice a n cp] 63)
  have HB := Lib.hid (Blk.new w 63 #[.int .i64 unit, .int .i64 guard, .int .i64 most, .int .i64 pat, .int .i64 gap, .int .i64 every, .int .i64 table, .slice a n cp])
  have HL := Lib.hid hL
  have HT := Lib.hid hT
  have HN := Lib.hid hn
  clear hL hT hn
  cases Z with
  | false =>
    rw [if_neg (by decide)] at kc
    simp only [Bool.false_eq_true, if_false]
    go_enter Tryz.func27, Tryz.ntmps27
    go_wp2_with fail
    (with_reducible refine (kc).mono ?_); rintro e1 W1 ⟨rfl, hb1⟩
    have hbz := hbe.trans (hb1.mono hbe.size)
    clear kc
    go_wp2_with fail
    go_ret2
    exact ⟨hbz, rfl⟩
  | true =>
    rw [if_pos rfl] at kc
    simp only [if_true]
    have hz := HZ.out.symm
    simp only [Bool.and_eq_true] at hz
    obtain ⟨⟨_, z2⟩, z3⟩ := hz
    have hn1 : 1 ≤ n ∧ n ≤ 16 := by unfold rest at z2; simp only [decide_eq_true_eq] at z2; exact ⟨z2.2.2.2.2.2.2.1, z2.2.2.2.2.2.2.2⟩
    have HU : Hid (uptoB table L L.length = true) := Lib.hid (by rw [HN.out]; exact z3)
    clear z2 z3 HZ
    obtain ⟨b0, o0, ha⟩ : ∃ b o, a = some ⟨b, o, none⟩ := by
      obtain ⟨s, hs⟩ : ∃ s, L[0]? = some s := ⟨_, List.getElem?_eq_getElem (by rw [HN.out]; omega)⟩
      obtain ⟨b, o, e, _⟩ := HL.out 0 s hs
      exact ⟨b, o, e⟩
    subst ha
    go_enter Tryz.func27, Tryz.ntmps27
    go_wp2_with fail
    (with_reducible refine (kc).mono ?_); rintro e1 W1 ⟨rfl, hb1⟩
    have hbz := hbe.trans (hb1.mono hbe.size)
    have hB1 := HB.out.below hb1 HB.out.lt
    have hs1 := HL.out.below (Nat.le_refl _) hbz
    have hB1s := hB1.lt
    have f7 := Blk.frozen hB1 7
    have d0 := Blk.cell (hB1) 0 (v := .int .i64 unit) rfl
    have d1 := Blk.cell (hB1) 1 (v := .int .i64 guard) rfl
    have d2 := Blk.cell (hB1) 2 (v := .int .i64 most) rfl
    have d3 := Blk.cell (hB1) 3 (v := .int .i64 pat) rfl
    have d4 := Blk.cell (hB1) 4 (v := .int .i64 gap) rfl
    have d5 := Blk.cell (hB1) 5 (v := .int .i64 every) rfl
    have d6 := Blk.cell (hB1) 6 (v := .int .i64 table) rfl
    have d7 := Blk.cell (hB1) 7 (v := .slice (some ⟨b0, o0, none⟩) n cp) rfl
    clear kc hb1 HB
    go_wp2_with (at_builtin; refine wpList_appS (en := enSm) (A := []) (L := L) (n := 0) (m := n) (base := w.heap.size + 1) rfl _ _ rfl enSm_len enSm_one elemSm rfl rfl (World.ownsRow_nil _ _ _ _) rfl HN.out (fun e => by cases e) hs1 (fun a' e => ⟨b0, o0, by injection e with e; exact e.symm⟩) (by omega) (by unfold maxLen; omega) hB1s ?_)
    intro v9 W8 hown9 hb8
    replace hown9 : W8.ownsRow (w.heap.size + 1) 77 5 v9 n (flat enSm L) := by simpa using hown9
    rcases hown9.2 with ⟨_, h0⟩ | ⟨g, c9, cur, rfl, hBg, hgc, _⟩
    · omega
    have hlg := (Array.getElem?_eq_some_iff.1 hgc).1
    have hs9 := own_seq enSm_len hown9 HN.out
    have hB8 := hB1.below hb8 (by omega)
    have HW8 := Lib.hid (hbz.trans (hb8.mono (by omega)))
    have g7 := Blk.frozen hB8 7
    have e7 := Blk.cell hB8 7 (v := .slice (some ⟨b0, o0, none⟩) n cp) rfl
    have hB9 : Blk (W8.setCell ⟨w.heap.size, 7, none⟩ (.slice (some ⟨g, 0, none⟩) n c9)) w.heap.size 63 #[.int .i64 unit, .int .i64 guard, .int .i64 most, .int .i64 pat, .int .i64 gap, .int .i64 every, .int .i64 table, .slice (some ⟨g, 0, none⟩) n c9] := Blk.set_ hB8 7 _
    clear d0 d1 d2 d3 d4 d5 d6 d7 f7 hs1 hbz hB1 hown9 hgc
    have d0 := Blk.cell (hB9) 0 (v := .int .i64 unit) rfl
    have d1 := Blk.cell (hB9) 1 (v := .int .i64 guard) rfl
    have d2 := Blk.cell (hB9) 2 (v := .int .i64 most) rfl
    have d3 := Blk.cell (hB9) 3 (v := .int .i64 pat) rfl
    have d4 := Blk.cell (hB9) 4 (v := .int .i64 gap) rfl
    have d5 := Blk.cell (hB9) 5 (v := .int .i64 every) rfl
    have d6 := Blk.cell (hB9) 6 (v := .int .i64 table) rfl
    have d7 := Blk.cell (hB9) 7 (v := .slice (some ⟨g, 0, none⟩) n c9) rfl
    have HS := Lib.hid hs9
    have HB9 := Lib.hid hB9
    have m7 := Blk.cell (Blk.alloc hB9 (.cells #[.int .i64 unit, .int .i64 guard, .int .i64 most, .int .i64 pat, .int .i64 gap, .int .i64 every, .int .i64 table, .slice (some ⟨g, 0, none⟩) n c9, .slice none 0 0, .slice none 0 0] 178)) 7 (v := .slice (some ⟨g, 0, none⟩) n c9) rfl
    have hws := HW8.out.size
    have HI := Lib.hid (show Nw w ((W8.setCell ⟨w.heap.size, 7, none⟩ (.slice (some ⟨g, 0, none⟩) n c9)).alloc (.cells #[.int .i64 unit, .int .i64 guard, .int .i64 most, .int .i64 pat, .int .i64 gap, .int .i64 every, .int .i64 table, .slice (some ⟨g, 0, none⟩) n c9, .slice none 0 0, .slice none 0 0] 178)) W8.heap.size g (.int .i64 unit) (.int .i64 guard) (.int .i64 most) (.int .i64 pat) (.int .i64 gap) (.int .i64 every) (.int .i64 table) (.slice (some ⟨g, 0, none⟩) n c9) (.slice none 0 0) L 0 (.slice none 0 0) from by
      have hz : (W8.setCell ⟨w.heap.size, 7, none⟩ (.slice (some ⟨g, 0, none⟩) n c9)).heap.size = W8.heap.size := by simp [World.setCell]
      refine ⟨?_, Blk.newAt _ _ _ hz.symm, ⟨[], World.ownsRow_nil _ _ _ _⟩, ?_, hws, hlg⟩
      · refine seqG HS.out (by simp [hz]) ?_
        rw [Below.heap_alloc _ _ g (by rw [hz]; exact hlg)]
        exact Below.heap_setCell W8 ⟨w.heap.size, 7, none⟩ _ g (by show g ≠ w.heap.size; omega)
      · exact (HW8.out.trans (below_of_only (only_set (only_refl W8 (some w.heap.size)) 7 _) hws (fun k hk => by injection hk with hk; omega))).alloc (by rw [hz]; exact hws) _)
    clear hs9 hB8 hb8 hB9
    go_wp2_with fail
    clear d0 d1 d2 d3 d4 d5 d6 d7 m7 e7 g7 HB9 HS HW8 hlg
    obtain ⟨gl, hgl⟩ : ∃ g, W8.heap.size = g := ⟨_, rfl⟩
    rw [hgl] at HI hws ⊢
    clear hgl
    go_loopw [25] (fun i wr => ∃ (q : Nat) (fv : Value), q ≤ n ∧ i = .int .i64 q ∧ Nw w wr gl g (.int .i64 unit) (.int .i64 guard) (.int .i64 most) (.int .i64 pat) (.int .i64 gap) (.int .i64 every) (.int .i64 table) (.slice (some ⟨g, 0, none⟩) n c9) (.slice none 0 0) L q fv) (fun i _ => n - (intOf i).toNat)
    case atStart => exact ⟨0, _, by omega, rfl, HI.out⟩
    case round =>
      obtain ⟨q, fv, hq, rfl, HM⟩ := hrel
      clear HI
      by_cases hqn : q < n
      · have t1 : decide (q < n) = true := decide_eq_true hqn
        obtain ⟨s, hs⟩ : ∃ s, L[q]? = some s := ⟨_, List.getElem?_eq_getElem (by rw [HN.out]; exact hqn)⟩
        obtain ⟨b1, o1, he1, hlt, hc⟩ := HM.sq q s hs
        injection he1 with he1
        injection he1 with he1 he2
        subst he1 he2
        have k0 : (0 : Int) ≤ (q : Int) := Int.natCast_nonneg _
        have k1 : (q : Int) < (n : Int) := by omega
        have c0 := hc 0 _ rfl
        have c1 := hc 1 _ rfl
        have c2 := hc 2 _ rfl
        have c3 := hc 3 _ rfl
        have c4 := hc 4 _ rfl
        rw [off_eq] at c0 c1 c2 c3 c4
        rw [Nat.add_zero] at c0
        rw [Nat.zero_add] at c0 c1 c2 c3 c4
        have kf := FrA.new_any s.R s.C s.K (wr.alloc (.cells #[.int .i64 s.pid, .int .i64 s.mac, .int .i64 s.R, .int .i64 s.C, .int .i64 s.K] 77)) (HT.out.be (HM.be.alloc HM.be.size _))
        have hok := upto_all HU.out hs
        simp only [hok, if_true] at kf
        obtain ⟨pid, mac, R, C, K⟩ := s
        dsimp only at kf c0 c1 c2 c3 c4
        have hbk := Blk.new wr 77 #[.int .i64 pid, .int .i64 mac, .int .i64 R, .int .i64 C, .int .i64 K]
        have HMH := Lib.hid (HM.below ((Below.refl wr.heap.size wr).alloc (Nat.le_refl _) (.cells #[.int .i64 pid, .int .i64 mac, .int .i64 R, .int .i64 C, .int .i64 K] 77)))
        have e0 := Blk.cell (hbk) 0 (v := .int .i64 pid) rfl
        have e1 := Blk.cell (hbk) 1 (v := .int .i64 mac) rfl
        have e2 := Blk.cell (hbk) 2 (v := .int .i64 R) rfl
        have e3 := Blk.cell (hbk) 3 (v := .int .i64 C) rfl
        have e4 := Blk.cell (hbk) 4 (v := .int .i64 K) rfl
        clear hbk HM hc hs
        go_wp2_with fail
        (with_reducible refine (kf).mono ?_); rintro e1 W5 ⟨hb5, hf⟩
        obtain ⟨_, _, _, gf, gr, _, _, _, _, _, _, _, rfl, _⟩ := hf
        have HM5 := HMH.out.below hb5
        clear kf hb5 HMH e0 e1 e2 e3 e4 c0 c1 c2 c3 c4 hok
        have e8 := Blk.cell HM5.bx 8 (v := fv) rfl
        obtain ⟨xs, hfr⟩ := HM5.fr
        have hown2 := hfr.alloc (.cells #[.pointer (some ⟨gf, 0, none⟩)] 25)
        have hsz2 : gl + 1 ≤ (W5.alloc (.cells #[.pointer (some ⟨gf, 0, none⟩)] 25)).heap.size := by have := HM5.bx.lt; simp; omega
        have hbk := Blk.new W5 25 #[.pointer (some ⟨gf, 0, none⟩)]
        have HM6 := Lib.hid (HM5.below ((Below.refl W5.heap.size W5).alloc (Nat.le_refl _) (.cells #[.pointer (some ⟨gf, 0, none⟩)] 25)))
        clear HM5 hfr
        go_wp2_with (at_builtin; refine wpList_app rfl _ _ rfl elemFp rfl hown2 rfl rfl (blk_news hbk) (by simp [Value.oneCell']) (by omega) (by unfold maxLen; omega) hsz2 ?_)
        intro v7 W7 hown7 hb7
        obtain ⟨a7, k7, rfl⟩ := Ap.own_form hown7
        have HM7 := Lib.hid (HM6.out.put hb7 hown7)
        have hB7 := HM6.out.bx.below hb7 (by omega)
        have g8 := Blk.frozen hB7 8
        have k8 := Blk.cell hB7 8 (v := fv) rfl
        clear hown2 hsz2 hbk HM6 hown7 hb7 e8
        go_wp2_with fail
        go_roundw
        case rel => exact ⟨q + 1, _, by omega, by go_num, HM7.out⟩
        case measure => simp [intOf]; omega
      · obtain rfl : q = n := by omega
        have t1 : decide (q < q) = false := by simp
        have hbz6 := HM.be
        clear HM
        go_wp2_with fail
        go_ret2
        exact ⟨hbz6, _, rfl⟩
end Go.Proofs.YtbiiehobfnbloaaGreatDoor.LnN
