/- TableSafe, walked. -/
import Derived.Test.YtlocgilgdnhnlaaDoorLaP
namespace Go.Proofs.YtlocgilgdnhnlaaDoor.SfA
open Go Go.RowKit Go.Proofs.YtlocgilgdnhnlaaDoor.Q Go.Proofs.YtlocgilgdnhnlaaDoor.Mem Go.Proofs.YtlocgilgdnhnlaaDoor.Rg Go.Proofs.YtlocgilgdnhnlaaDoor.Ap Go.Proofs.YtlocgilgdnhnlaaDoor.St Go.Proofs.YtlocgilgdnhnlaaDoor.CrB Go.Proofs.YtlocgilgdnhnlaaDoor.SeEq Go.Proofs.YtlocgilgdnhnlaaDoor.Tab Go.Proofs.YtlocgilgdnhnlaaDoor.Ints Go.Proofs.YtlocgilgdnhnlaaDoor.TlS Go.Proofs.YtlocgilgdnhnlaaDoor.TbM Go.Proofs.YtlocgilgdnhnlaaDoor.TbO Go.Proofs.YtlocgilgdnhnlaaDoor.TbP Go.Proofs.YtlocgilgdnhnlaaDoor.TbT Go.Proofs.YtlocgilgdnhnlaaDoor.TbU Go.Proofs.YtlocgilgdnhnlaaDoor.FrA Go.Proofs.YtlocgilgdnhnlaaDoor.FrB Go.Proofs.YtlocgilgdnhnlaaDoor.LaG Go.Proofs.YtlocgilgdnhnlaaDoor.LaH Go.Proofs.YtlocgilgdnhnlaaDoor.LaI Go.Proofs.YtlocgilgdnhnlaaDoor.LaP

set_option maxRecDepth 100000
theorem told_app (g : List Int) : ∀ (A B : List (Nat × ByteArray)) (k : Nat), told g k (A ++ B) = told g k A ++ told g (k + A.length) B
  | [], B, k => rfl
  | x :: t, B, k => by
    rw [List.cons_append, told, told, told_app g t B (k + 1), List.length_cons, show k + 1 + t.length = k + (t.length + 1) by omega]
    split <;> rfl
theorem told_take {g : List Int} {L : List (Nat × ByteArray)} {i : Nat} {x : Nat × ByteArray} (hx : L[i]? = some x) :
    ((i : Int) ∈ g → told g 0 (L.take (i + 1)) = told g 0 (L.take i)) ∧ ((i : Int) ∉ g → told g 0 (L.take (i + 1)) = told g 0 (L.take i) ++ [x] ∧ (told g 0 L)[(told g 0 (L.take i)).length]? = some x) := by
  have hl : (L.take i).length = i := by rw [List.length_take]; have := (List.getElem?_eq_some_iff.1 hx).1; omega
  have h1 : told g 0 (L.take (i + 1)) = told g 0 (L.take i) ++ told g i [x] := by rw [List.take_add_one, hx, Option.toList_some, told_app, hl, Nat.zero_add]
  refine ⟨fun hg => by rw [h1, told, if_pos hg, told, List.append_nil], fun hg => ⟨by rw [h1, told, if_neg hg, told], ?_⟩⟩
  have h2 : L = L.take i ++ x :: L.drop (i + 1) := by
    have hi := (List.getElem?_eq_some_iff.1 hx).1
    have := List.take_append_drop i L
    rw [List.drop_eq_getElem_cons hi, (List.getElem?_eq_some_iff.1 hx).2] at this
    exact this.symm
  have h3 : told g 0 L = told g 0 (L.take i) ++ x :: told g (i + 1) (L.drop (i + 1)) := by
    conv => lhs; rw [h2]
    rw [told_app, hl, Nat.zero_add, told, if_neg hg]
  rw [h3, List.getElem?_append_right (Nat.le_refl _), Nat.sub_self]
  rfl
theorem told_le (g : List Int) : ∀ (L : List (Nat × ByteArray)) (k : Nat), (told g k L).length ≤ L.length
  | [], k => Nat.le_refl _
  | x :: t, k => by
    rw [told]
    have := told_le g t (k + 1)
    split
    · simp; omega
    · simp; omega
theorem tbM_all {M : List ByteArray} {p : List Int} {T : Tb} : ∀ {k : Nat}, (∀ i, i < k → (i : Int) ∈ p) → tbM M p T k = T
  | 0, _ => rfl
  | k + 1, h => by rw [tbM_succ, if_pos (h k (by omega)), tbM_all (fun i hi => h i (by omega))]
theorem ints_at {w : World} {B n : Nat} {a : Option Addr} {c : Nat} {L : List Nat} (h : w.ownsRow B 3 1 (.slice a n c) n (ints L)) {i z : Nat} (hi : L[i]? = some z) : ∃ g, a = some ⟨g, 0, none⟩ ∧ g < w.heap.size ∧ w.cell? ⟨g, i, none⟩ = some (.int .i64 (z : Int)) := by
  have hil := (List.getElem?_eq_some_iff.1 hi).1
  have hl : L.length = n := by have := h.1; simp [ints] at this; exact this
  rcases h.2 with ⟨_, h0⟩ | ⟨g, cap, cur, e, _⟩
  · omega
  · simp only [Value.slice.injEq, true_and] at e
    obtain ⟨rfl, rfl⟩ := e
    refine ⟨g, rfl, (h.lt g rfl).2, ?_⟩
    rw [h.cellAt i (by omega)]
    simp [ints, hi]
theorem ints_own {w : World} {B n c : Nat} {a : Option Addr} {L : List Nat} (h : w.ownsRow B 3 1 (.slice a n c) n (ints L)) : Ints w a (L.map (fun z : Nat => (z : Int))) := fun i x hi => by
  rw [List.getElem?_map] at hi
  cases hz : L[i]? with
  | none => rw [hz] at hi; cases hi
  | some z =>
    rw [hz] at hi
    injection hi with hi
    subst hi
    obtain ⟨g, e, hlt, hc⟩ := ints_at h hz
    exact ⟨g, 0, e, hlt, by rw [Nat.zero_add]; exact hc⟩
theorem mk_none (V : World) : ∃ A : Array Value, (Instr.makeSlice 24 (.int .i64 0) (.int .i64 0)).run Tryd.prog V = .ok (.slice (some ⟨V.heap.size, 0, none⟩) 0 0) (V.alloc (.cells A 3)) ∧ ∀ W : World, (W.alloc (.cells A 3)).ownsRow W.heap.size 3 1 (.slice (some ⟨W.heap.size, 0, none⟩) 0 0) 0 (ints []) := by
  have hinfo : (Tryd.prog.info? 3).map (fun i => (i.zero, i.size, i.bytes)) = some (some (.int .i64 0), 1, 8) := by kernel_rfl
  cases hi : Tryd.prog.info? 3 with
  | none => have h := hinfo; rw [hi] at h; cases h
  | some i =>
    have h := hinfo
    rw [hi] at h
    simp only [Option.map_some, Option.some.injEq, Prod.mk.injEq] at h
    obtain ⟨h1, h2, h3⟩ := h
    have hr := run_make (P := Tryd.prog) V 24 3 i (.int .i64 0) Tryd.underlying24 hi h1 .i64 .i64 0 0 (by omega) (by omega) (by rw [h3]; omega) (by omega)
    rw [h2] at hr
    exact ⟨_, hr, fun W => ⟨rfl, Or.inr ⟨W.heap.size, 0, _, rfl, Nat.le_refl _, heap_alloc_new W _, Nat.zero_le _, by unfold maxLen; omega, by simp [size_madeCells], rfl⟩⟩⟩
theorem parS_L (S : Fr) (k : Nat) : (FrC.parS S k).L = S.L := by
  unfold FrC.parS FrC.freshS
  split
  · rfl
  · split <;> rfl
def p64 : List Int := (List.range 64).map (fun z : Nat => (z : Int))
set_option maxHeartbeats 6400000 in
theorem law_any (w : World) (R C K : Int) (la ga pa : Option Addr) (ln lc gn gc pn pc : Nat) (pad : Bool) (l g : List Int) (hT : Tab 1 w) (hT2 : Tab 0 w)
    (hl : Ints w la l) (hln : l.length = ln) (hll : ln ≤ 9223372036854775807) (hg : Ints w ga g) (hgn : g.length = gn) :
    Calls Tryd.prog 3 #[.agg #[.int .i64 R, .int .i64 C, .int .i64 K], .slice la ln lc, .agg #[.slice ga gn gc, .slice pa pn pc, .bool pad]] w fun e w' => e = .returned (.bool true) ∧ Below w.heap.size w w' := by
  obtain ⟨Q, hQ⟩ : ∃ Q : Ending → World → Prop, Q = (fun e w' => e = .returned (.bool true) ∧ Below w.heap.size w w') := ⟨_, rfl⟩
  rw [← hQ]
  have HR := Lib.hid hQ
  have hB1 := Blk.new w 23 #[.int .i64 R, .int .i64 C, .int .i64 K]
  have hbe1 := (Below.refl _ w).alloc (Nat.le_refl _) (.cells #[.int .i64 R, .int .i64 C, .int .i64 K] 23)
  have hB2 := hB1.alloc (.cells #[.slice ga gn gc, .slice pa pn pc, .bool pad] 26)
  have hB3 := Blk.newAt (w.alloc (.cells #[.int .i64 R, .int .i64 C, .int .i64 K] 23)) 26 #[.slice ga gn gc, .slice pa pn pc, .bool pad] (show w.heap.size + 1 = (w.alloc (.cells #[.int .i64 R, .int .i64 C, .int .i64 K] 23)).heap.size by simp)
  have hbe2 := hbe1.alloc hbe1.size (.cells #[.slice ga gn gc, .slice pa pn pc, .bool pad] 26)
  have hsz : ((w.alloc (.cells #[.int .i64 R, .int .i64 C, .int .i64 K] 23)).alloc (.cells #[.slice ga gn gc, .slice pa pn pc, .bool pad] 26)).heap.size = w.heap.size + 2 := by simp
  obtain ⟨V, hV⟩ : ∃ V, (w.alloc (.cells #[.int .i64 R, .int .i64 C, .int .i64 K] 23)).alloc (.cells #[.slice ga gn gc, .slice pa pn pc, .bool pad] 26) = V := ⟨_, rfl⟩
  rw [hV] at hB2 hB3 hbe2 hsz
  obtain ⟨b, hb⟩ : ∃ b, w.heap.size = b := ⟨_, rfl⟩
  have HBS := Lib.hid hb
  rw [hb] at hB2 hB3 hbe2 hsz
  obtain ⟨A, hmk, hown0⟩ := mk_none V
  have HL := Lib.hid hl
  have HG := Lib.hid hg
  have HT := Lib.hid (And.intro hT hT2)
  have HN := Lib.hid (And.intro hln (And.intro hll hgn))
  have g1 := Blk.cell hB3 1 (v := .slice pa pn pc) rfl
  have g2 := Blk.frozen hB3 1
  have g3 := Blk.cell (hB3.alloc (.cells A 3)) 1 (v := .slice pa pn pc) rfl
  have g4 := Blk.frozen (hB3.alloc (.cells A 3)) 1
  have hB4 := (hB3.set_ 1 (.slice (some ⟨b + 2, 0, none⟩) 0 0)).alloc (.cells A 3)
  have hB5 := (Blk.far hB2 (show b ≠ (⟨b + 1, 1, none⟩ : Addr).block by show b ≠ b + 1; omega) (.slice (some ⟨b + 2, 0, none⟩) 0 0)).alloc (.cells A 3)
  have hbe5 := (hbe2.setCell (p := ⟨b + 1, 1, none⟩) (by show b ≤ b + 1; omega) (.slice (some ⟨b + 2, 0, none⟩) 0 0)).alloc (by simp [World.setCell]; omega) (.cells A 3)
  have hown5 := hown0 (V.setCell ⟨b + 1, 1, none⟩ (.slice (some ⟨b + 2, 0, none⟩) 0 0))
  have hs5 : (V.setCell ⟨b + 1, 1, none⟩ (.slice (some ⟨b + 2, 0, none⟩) 0 0)).heap.size = b + 2 := by simp [World.setCell]; exact hsz
  rw [hs5] at hown5
  rw [hsz] at hmk
  have HX := Lib.hid (And.intro hB4 (And.intro hB5 (And.intro hbe5 hown5)))
  clear hQ hB1 hbe1 hB2 hB3 hbe2 hown0 hl hg hT hT2 hln hll hgn hB4 hB5 hbe5 hown5 hs5
  go_enter Tryd.func3, Tryd.ntmps3
  go_wp2_with fail
  clear hmk g1 g2 g3 g4
  go_loopw [7] (fun iv W => ∃ k : Nat, k ≤ 64 ∧ iv = .int .i64 k ∧ Hid (∃ pv, Blk W (b + 1) 26 #[.slice ga gn gc, pv, .bool pad] ∧ Blk W b 23 #[.int .i64 R, .int .i64 C, .int .i64 K] ∧ W.ownsRow (b + 2) 3 1 pv k (ints (List.range k))) ∧ Below b w W) (fun iv _ => 64 - (intOf iv).toNat)
  case atStart => exact ⟨0, by omega, rfl, Lib.hid ⟨_, HX.out.1, HX.out.2.1, HX.out.2.2.2⟩, HX.out.2.2.1⟩
  case round =>
    clear HX
    obtain ⟨k, hk, rfl, HX, hbe⟩ := hrel
    obtain ⟨pv, hB3, hB2, hown⟩ := HX.out
    have k0 : (0 : Int) ≤ (k : Int) := Int.natCast_nonneg _
    by_cases hkn : k < 64
    · have t0 : decide ((k : Int) < 64) = true := decide_eq_true (by omega)
      have k1 : (k : Int) < 64 := by omega
      have hb9 := Blk.new wr 3 #[.int .i64 (k : Int)]
      have hbA := (Below.refl wr.heap.size wr).alloc (Nat.le_refl _) (.cells #[.int .i64 (k : Int)] 3)
      have hown2 := own_below hown hbA
      have hB4 := hB3.alloc (.cells #[.int .i64 (k : Int)] 3)
      have hB5 := hB2.alloc (.cells #[.int .i64 (k : Int)] 3)
      have c1 := Blk.cell hB3 1 (v := pv) rfl
      have hsz2 : b + 2 ≤ (wr.alloc (.cells #[.int .i64 (k : Int)] 3)).heap.size := by have := hB3.lt; simp; omega
      have hbs : b ≤ wr.heap.size := by have := hB2.lt; omega
      have hbe2 := hbe.alloc hbs (.cells #[.int .i64 (k : Int)] 3)
      clear HX hB3 hB2 hown hbe hbA
      go_wp2_with (at_builtin; refine ApG.wpList_appG rfl _ _ rfl TbQ.elemN rfl hown2 rfl rfl (blk_news hb9) (by simp [Value.oneCell']) (by omega) (by unfold maxLen; omega) hsz2 ?_)
      intro v9 W8 hown9 hg9 hat9
      obtain ⟨av, cv, hvf⟩ := own_form hown9
      subst hvf
      have hne1 : pv.ownBlock ≠ some (b + 1) := fun e => by have := (hown2.lt _ e).1; omega
      have hne0 : pv.ownBlock ≠ some b := fun e => by have := (hown2.lt _ e).1; omega
      have hB6 := Blk.grown hB4 hg9 (fun e => hne1 e.symm)
      have hB7 := Blk.grown hB5 hg9 (fun e => hne0 e.symm)
      have d1 := Blk.cell hB6 1 (v := pv) rfl
      have d2 := Blk.frozen hB6 1
      have hlt9 := hown9.lt
      have hB8 := hB6.set_ 1 (.slice av (k + 1) cv)
      have hB9 := Blk.far hB7 (show b ≠ (⟨b + 1, 1, none⟩ : Addr).block by show b ≠ b + 1; omega) (.slice av (k + 1) cv)
      have hown8 := own_kept hown9 (kept_set (F := fun j => j = b + 1) (a := W8) (p := ⟨b + 1, 1, none⟩) (u := .slice av (k + 1) cv) rfl) (fun i hi => by have := (hlt9 i hi).1; omega)
      rw [show ints (List.range k) ++ [.int .i64 (k : Int)] = ints (List.range (k + 1)) by rw [List.range_succ, TbQ.ints_snoc]] at hown8
      have hbe8 : Below b w W8 := hbe2.trans (below_of_only hg9 (by omega) (fun r e => by have := (hown2.lt r e).1; omega))
      have hbe9 := hbe8.setCell (p := ⟨b + 1, 1, none⟩) (by show b ≤ b + 1; omega) (.slice av (k + 1) cv)
      have HX := Lib.hid (show ∃ pv, Blk (W8.setCell ⟨b + 1, 1, none⟩ (.slice av (k + 1) cv)) (b + 1) 26 #[.slice ga gn gc, pv, .bool pad] ∧ Blk (W8.setCell ⟨b + 1, 1, none⟩ (.slice av (k + 1) cv)) b 23 #[.int .i64 R, .int .i64 C, .int .i64 K] ∧ (W8.setCell ⟨b + 1, 1, none⟩ (.slice av (k + 1) cv)).ownsRow (b + 2) 3 1 pv (k + 1) (ints (List.range (k + 1))) from ⟨_, hB8, hB9, hown8⟩)
      clear hown2 hb9 hB4 hB5 hown9 hg9 hat9 hB6 hB7 hlt9 hB8 hB9 hown8 hbe8 hbe2 hne1 hne0
      go_wp2_with fail
      go_roundw
      case rel => exact ⟨k + 1, by omega, by go_num, HX, hbe9⟩
      case measure => simp [intOf]; omega
    · obtain rfl : k = 64 := by omega
      have t0 : decide (((64 : Nat) : Int) < 64) = false := by decide
      obtain ⟨pa', pc', hpv⟩ := own_form hown
      subst hpv
      have HP := Lib.hid (show Ints wr pa' p64 from ints_own hown)
      have HBW : Hid (Below w.heap.size w wr) := Lib.hid (by rw [HBS.out]; exact hbe)
      have HB3 := Lib.hid hB3
      have HB2 := Lib.hid hB2
      have c0 := Blk.cell (hB2) 0 (v := .int .i64 R) rfl
      have c1 := Blk.cell (hB2) 1 (v := .int .i64 C) rfl
      have c2 := Blk.cell (hB2) 2 (v := .int .i64 K) rfl
      have d0 := Blk.cell (hB3) 0 (v := .slice ga gn gc) rfl
      have d1 := Blk.cell (hB3) 1 (v := .slice pa' 64 pc') rfl
      have d2 := Blk.cell (hB3) 2 (v := .bool pad) rfl
      have ks := sure_any wr R C K la ga pa' ln lc gn gc 64 pc' pad l (HT.out.2.be HBW.out) HN.out.1 HN.out.2.1 (HL.out.below (Nat.le_refl _) HBW.out)
      have HSB : Hid (sureB R C K l gn 64 = (l.all small && (okC R C K && decide (R = 256) && decide (l.length ≤ 20) && decide (gn ≤ 30) && decide (64 ≤ 64)))) := Lib.hid rfl
      obtain ⟨z, hz⟩ : ∃ z, sureB R C K l gn 64 = z := ⟨_, rfl⟩
      rw [hz] at ks HSB
      clear HX hB3 hB2 hown hbe hz
      cases z with
      | false =>
        go_wp2_with fail
        (with_reducible refine (ks).mono ?_); rintro e1 W1 ⟨rfl, hb1⟩
        have hb2 := HBW.out.trans (hb1.mono HBW.out.size)
        have ka := LaE.awake_any W1 (HT.out.1.be hb2)
        clear ks hb1 c0 c1 c2 d0 d1 d2
        go_wp2_with fail
        (with_reducible refine (ka).mono ?_); rintro e2 W2 ⟨rfl, hb3⟩
        have hb4 := hb2.trans (hb3.mono hb2.size)
        clear ka hb3 hb2
        go_wp2_with fail
        rw [HR.out]
        exact ⟨rfl, hb4⟩
      | true =>
        have hs := HSB.out.symm
        simp only [Bool.and_eq_true, decide_eq_true_eq] at hs
        obtain ⟨_, ⟨⟨⟨hok, rfl⟩, hl20⟩, hg30⟩, _⟩ := hs
        unfold okC at hok
        simp only [Bool.and_eq_true, decide_eq_true_eq] at hok
        obtain ⟨⟨⟨⟨_, h1⟩, h2⟩, h3⟩, h4⟩ := hok
        obtain ⟨C', rfl⟩ : ∃ C' : Nat, C = (C' : Int) := ⟨C.toNat, by omega⟩
        obtain ⟨K', rfl⟩ : ∃ K' : Nat, K = (K' : Int) := ⟨K.toNat, by omega⟩
        obtain rfl : l.length = ln := HN.out.1
        have HC := Lib.hid (show C' ≤ 191 ∧ 1 ≤ C' ∧ K' ≤ 64 from ⟨by omega, by omega, by omega⟩)
        clear h1 h2 h3 h4 HSB
        go_wp2_with fail
        (with_reducible refine (ks).mono ?_); rintro e1 W1 ⟨rfl, hb1⟩
        have hbW1 := HBW.out.trans (hb1.mono HBW.out.size)
        have hB3' := Blk.below HB3.out hb1 HB3.out.lt
        have hB2' := Blk.below HB2.out hb1 HB2.out.lt
        have f0 := Blk.cell (hB2') 0 (v := .int .i64 256) rfl
        have f1 := Blk.cell (hB2') 1 (v := .int .i64 (C' : Int)) rfl
        have f2 := Blk.cell (hB2') 2 (v := .int .i64 (K' : Int)) rfl
        have h0 := Blk.cell (hB3') 0 (v := .slice ga gn gc) rfl
        have h1 := Blk.cell (hB3') 1 (v := .slice pa' 64 pc') rfl
        have h2 := Blk.cell (hB3') 2 (v := .bool pad) rfl
        have kse := sent_any W1 C' K' la ga pa' lc gn gc 64 pc' pad l g p64 (HT.out.1.be hbW1) (HT.out.2.be hbW1) HC.out.1 HC.out.2.1 HC.out.2.2 (HL.out.below (Nat.le_refl _) hbW1) hl20 (HG.out.below (Nat.le_refl _) hbW1) HN.out.2.2 (by omega) (HP.out.below (Nat.le_refl _) hb1) (by simp [p64]) (by decide)
        clear ks hb1 c0 c1 c2 d0 d1 d2 hB2'
        go_wp2_with fail
        (with_reducible refine (kse).mono ?_); rintro e2 W2 ⟨⟨gf, gr, v, gt, g2, u, rfl, hFT⟩, hb2⟩
        have hbW2 := hbW1.trans (hb2.mono hbW1.size)
        have hB3 := Blk.below hB3' hb2 hB3'.lt
        clear kse hb2 hB3' f0 f1 f2 h0 h1 h2 hbW1
        have HFS : Hid (OkL (frS C' K' l) ∧ (frS C' K' l).R = 256 ∧ (frS C' K' l).L.length ≤ 20) := Lib.hid (by
          have q1 := frK_R 256 C' K' l l.length
          have q2 := frK_len 256 C' K' l l.length
          exact ⟨frK_ok (by decide) (by decide) HC.out.1 l _, q1.1, Nat.le_trans q2 hl20⟩)
        have hTS : tbS C' K' l g p64 pad = if pad then TbR.padS (tbK (frS C' K' l).L g (emptyT 256) (frS C' K' l).L.length) (padN (frS C' K' l) : Nat) else tbK (frS C' K' l).L g (emptyT 256) (frS C' K' l).L.length := by
          unfold tbS
          rw [tbM_all (fun i hi => by
            have : i < 64 := by omega
            simp only [p64, List.mem_map, List.mem_range]
            exact ⟨i, this, rfl⟩)]
        have HSO := Lib.hid (safe_out HFS.out.1 HFS.out.2.1 HFS.out.2.2 g pad hTS)
        have HSH := Lib.hid (safe_has HFS.out.1 HFS.out.2.1 HFS.out.2.2 g pad hTS)
        obtain ⟨F, hF⟩ : ∃ F, frS C' K' l = F := ⟨_, rfl⟩
        obtain ⟨T, hT⟩ : ∃ T, tbS C' K' l g p64 pad = T := ⟨_, rfl⟩
        rw [hF, hT] at hFT
        rw [hF] at HFS
        rw [hF, hT] at HSO HSH
        have hpl := parS_L F (64 - K')
        have hpok := FrC.par_ok HFS.out.1.ok (64 - K')
        obtain ⟨FP, hFP⟩ : ∃ FP, FrC.parS F (64 - K') = FP := ⟨_, rfl⟩
        rw [hFP] at hFT hpl hpok
        have kp := FrB.placed_any W2 W1.heap.size gf gr v FP hFT.f hpok
        rw [hpl] at kp
        clear hTS hF hT hFP hpl hpok
        go_wp2_with fail
        (with_reducible refine (kp).mono ?_); rintro e3 W3 ⟨hb3, pv, rfl, hown3⟩
        obtain ⟨pa2, pc2, hpv⟩ := own_form hown3
        subst hpv
        have hT3 := hFT.t.below hb3
        have ko := out_any W3 W1.heap.size gt g2 u T hT3 HSH.out.1.ok
        have hbW3 := hbW2.trans (hb3.mono hbW2.size)
        have hB4 := Blk.below hB3 hb3 hB3.lt
        clear kp hb3 hFT hbW2 hB3 hT3
        go_wp2_with fail
        (with_reducible refine (ko).mono ?_); rintro e4 W4 ⟨hb4, ov, rfl, hown4⟩
        obtain ⟨oa, oc, hov⟩ := own_form hown4
        subst hov
        have hbW4 := hbW3.trans (hb4.mono hbW3.size)
        have hB5 := Blk.below hB4 hb4 hB4.lt
        have hSP := own_seq enPd_len (own_below hown3 hb4) rfl
        have hSO := own_seq (en := enPl T) (sz := 2) (fun _ => rfl) hown4 rfl
        rw [HSO.out] at hSO ⊢
        rw [List.length_map]
        have HSP := Lib.hid hSP
        have HSOO := Lib.hid hSO
        have HB5 := Lib.hid hB5
        have hDl := told_le g F.L 0
        obtain ⟨D, hD⟩ : ∃ D, told g 0 F.L = D := ⟨_, rfl⟩
        have HD := Lib.hid hD
        rw [hD] at HSOO HSH hDl ⊢
        obtain ⟨m, hm⟩ : ∃ m, F.L.length = m := ⟨_, rfl⟩
        have HM := Lib.hid hm
        obtain ⟨dn, hdn⟩ : ∃ dn, D.length = dn := ⟨_, rfl⟩
        have HDN := Lib.hid hdn
        rw [hm, hdn] at hDl
        rw [hm, hdn]
        have hm20 : m ≤ 20 := by have := HFS.out.2.2; omega
        have HGW := Lib.hid (HG.out.below (Nat.le_refl _) hbW4)
        clear ko hb4 hown3 hown4 hbW3 hB4 hSP hSO hB5 hD hm hdn
        go_wp2_with fail
        go_loopw [13, 14] (fun nv iv W => ∃ i : Nat, i ≤ m ∧ iv = .int .i64 i ∧ nv = .int .i64 ((told g 0 (F.L.take i)).length : Nat) ∧ Below W4.heap.size W4 W) (fun _ iv _ => m - (intOf iv).toNat)
        case atStart => exact ⟨0, by omega, rfl, rfl, Below.refl _ _⟩
        case round =>
          obtain ⟨i, hi, rfl, rfl, hbe⟩ := hrel
          have i0 : (0 : Int) ≤ (i : Int) := Int.natCast_nonneg _
          have hsp := HSP.out.below (Nat.le_refl _) hbe
          have hso := HSOO.out.below (Nat.le_refl _) hbe
          have hB6 := Blk.below HB5.out hbe HB5.out.lt
          by_cases him : i < m
          · have t1 : decide ((i : Int) < (m : Int)) = true := decide_eq_true (by omega)
            have t1' : decide (i < m) = true := decide_eq_true him
            have i1 : (i : Int) < (m : Int) := by omega
            obtain ⟨x, hx⟩ : ∃ x, F.L[i]? = some x := ⟨_, List.getElem?_eq_getElem (by rw [HM.out]; exact him)⟩
            have HTT := Lib.hid (told_take (g := g) hx)
            obtain ⟨b1, o1, rfl, hlt1, hc1⟩ := hsp i x hx
            rw [off_eq] at hc1
            have kin := in_any wr ga gc g (i : Int) gn HN.out.2.2 (by omega) (HGW.out.below (Nat.le_refl _) hbe)
            have e0 := Blk.cell hB6 0 (v := .slice ga gn gc) rfl
            obtain ⟨y, hy⟩ : ∃ y, decide ((i : Int) ∈ g) = y := ⟨_, rfl⟩
            have HY := Lib.hid hy
            rw [hy] at kin
            obtain ⟨nn, hnn⟩ : ∃ nn, (told g 0 (F.L.take i)).length = nn := ⟨_, rfl⟩
            have HNN := Lib.hid hnn
            rw [hnn]
            have n0 : (0 : Int) ≤ (nn : Int) := Int.natCast_nonneg _
            have n1 : nn ≤ 20 := by
              have := told_le g (F.L.take i) 0
              rw [List.length_take] at this
              omega
            have n2 : (nn : Int) ≤ 20 := by omega
            clear hsp hB6 hx hy hnn
            cases y with
            | true =>
              have HT1 := Lib.hid (HTT.out.1 (of_decide_eq_true HY.out))
              go_wp2_with fail
              (with_reducible refine (kin).mono ?_); rintro e5 W5 ⟨rfl, rfl⟩
              clear kin e0 hlt1 hc1 hso
              go_wp2_with fail
              go_roundw
              case rel => exact ⟨i + 1, by omega, by go_num, by rw [HT1.out, HNN.out], hbe⟩
              case measure => simp [intOf]; omega
            | false =>
              have HT1 := Lib.hid (HTT.out.2 (of_decide_eq_false HY.out))
              have hDx : D[nn]? = some x := by
                have := HT1.out.2
                rw [HD.out, HNN.out] at this
                exact this
              have hnd : nn < dn := by rw [← HDN.out]; exact (List.getElem?_eq_some_iff.1 hDx).1
              have t2 : decide ((dn : Int) ≤ (nn : Int)) = false := decide_eq_false (by omega)
              have t2' : decide (dn ≤ nn) = false := decide_eq_false (by omega)
              have n3 : (nn : Int) < (dn : Int) := by omega
              obtain ⟨b2, o2, rfl, hlt2, hc2⟩ := hso nn (x.1, x.2.size) (by rw [List.getElem?_map, hDx]; rfl)
              rw [off_eq] at hc2
              have htx : str (bytesL T x.1 x.2.size) = x.2 := by
                rw [HSH.out.2.2 x (List.mem_of_getElem? hDx), str_bl]
              have q1 := fun pX => cell_ext (w := wr) (a := ⟨b1, o1 + i * 2, none⟩) (p := pX) hlt1 (hc1 0 (.int .i64 (x.1 : Int)) rfl)
              have q2 := fun pX => cell_ext (w := wr) (p := pX) hlt1 (hc1 1 (.string x.2) rfl)
              have q3 := fun pX => cell_ext (w := wr) (a := ⟨b2, o2 + nn * 2, none⟩) (p := pX) hlt2 (hc2 0 (.int .i64 (x.1 : Int)) rfl)
              have q4 := fun pX => cell_ext (w := wr) (p := pX) hlt2 (hc2 1 (.string x.2) (by rw [show enPl T (x.1, x.2.size) = [.int .i64 (x.1 : Int), .string (str (bytesL T x.1 x.2.size))] from rfl, htx]; rfl))
              clear hso hlt1 hc1 hlt2 hc2 htx hDx hnd
              go_wp2_with fail
              (with_reducible refine (kin).mono ?_); rintro e5 W5 ⟨rfl, rfl⟩
              clear kin e0
              go_wp2_with fail
              refine Go.Proofs.YtlocgilgdnhnlaaDoor.Q.region_ext (by kernel_rfl) (by kernel_rfl) ?_
              repeat (go_big_quiet_step (fail))
              refine wpQuiet_nil ?_
              rintro w9 ⟨pq, rfl⟩
              have hbe9 := hbe.trans ((below_ext wr pq).mono hbe.size)
              clear q1 q2 q3 q4 hbe
              go_wp2_with fail
              go_roundw
              case rel => exact ⟨i + 1, by omega, by go_num, by rw [HT1.out.1, List.length_append, HNN.out]; go_num, hbe9⟩
              case measure => simp [intOf]; omega
          · obtain rfl : i = m := by omega
            have t1 : decide ((i : Int) < (i : Int)) = false := decide_eq_false (by omega)
            have t1' : decide (i < i) = false := decide_eq_false (by omega)
            have hlast : (told g 0 (F.L.take i)).length = dn := by rw [← HM.out, List.take_length, HD.out, HDN.out]
            rw [hlast]
            have t2 : ((dn : Int) == (dn : Int)) = true := by simp
            have hbw := hbW4.trans (hbe.mono hbW4.size)
            have ka := LaE.awake_any wr (HT.out.1.be hbw)
            clear hsp hso hB6 hlast
            go_wp2_with fail
            (with_reducible refine (ka).mono ?_); rintro e5 W5 ⟨rfl, hb5⟩
            have hb6 := hbw.trans (hb5.mono hbw.size)
            clear ka hb5
            go_wp2_with fail
            rw [HR.out]
            exact ⟨rfl, hb6⟩
end Go.Proofs.YtlocgilgdnhnlaaDoor.SfA
