/- The document's answer for a frame: clarionref19.Make. -/
import Derived.Test.YtofedloikbmidaaGreatDoorBuE
import Derived.Test.YtofedloikbmidaaGreatDoorPkN
import Derived.Test.YtofedloikbmidaaGreatDoorPkF
import Derived.Deep.RegionHeld3
import Derived.Deep.AppendLies
namespace Go.Proofs.YtofedloikbmidaaGreatDoor.BuK
open Go Go.RowKit Go.Proofs.YtofedloikbmidaaGreatDoor.Q Go.Proofs.YtofedloikbmidaaGreatDoor.Mem Go.Proofs.YtofedloikbmidaaGreatDoor.Rg Go.Proofs.YtofedloikbmidaaGreatDoor.Ap Go.Proofs.YtofedloikbmidaaGreatDoor.St Go.Proofs.YtofedloikbmidaaGreatDoor.CrB Go.Proofs.YtofedloikbmidaaGreatDoor.Ints Go.Proofs.YtofedloikbmidaaGreatDoor.SeA Go.Proofs.YtofedloikbmidaaGreatDoor.SeC Go.Proofs.YtofedloikbmidaaGreatDoor.MpS Go.Proofs.YtofedloikbmidaaGreatDoor.FcS Go.Proofs.YtofedloikbmidaaGreatDoor.TmA Go.Proofs.YtofedloikbmidaaGreatDoor.DgC Go.Proofs.YtofedloikbmidaaGreatDoor.MpA Go.Proofs.YtofedloikbmidaaGreatDoor.FcA Go.Proofs.YtofedloikbmidaaGreatDoor.FrA Go.Proofs.YtofedloikbmidaaGreatDoor.FrB Go.Proofs.YtofedloikbmidaaGreatDoor.BuC Go.Proofs.YtofedloikbmidaaGreatDoor.BuD Go.Proofs.YtofedloikbmidaaGreatDoor.BuE

def txtL (L : List (Nat × ByteArray)) : List ByteArray := L.map (·.2)
def atL (L : List (Nat × ByteArray)) : List Int := L.map fun x => (x.1 : Int)
/-- what the document's Make says -/
structure RMk (L : List (Nat × ByteArray)) (PL : List ByteArray) (pad mac : Int) (w : World) (e : Ending) (w' : World) : Prop where
  be : Below w.heap.size w w'
  ok : ∃ v', e = .returned v' ∧ w'.ownsRow w.heap.size 9 1 v' (L.length + PL.length) (flat enS (gL L mac (decide (PL.length = 0)) ++ cL pad PL))
theorem mp_enc {p : Mp} (h : p.chk = 0) : bytesS p.sec = p.enc := by unfold Mp.enc; rw [if_pos h]
theorem fp_enc {p : Fp} (h : p.chk = 0) : bytesS p.sec = p.enc := by unfold Fp.enc; rw [if_pos h]
theorem infoStr : (Tryz.prog.info? 9).map (fun i => (i.zero, i.size, i.bytes)) = some (some (.string ByteArray.empty), 1, 16) := by kernel_rfl
set_option maxRecDepth 100000
set_option maxHeartbeats 3200000 in
theorem rmake_any (L : List (Nat × ByteArray)) (PL : List ByteArray) (pad mac : Int) (ga aa pa : Option Addr) (n k gc ac pc : Nat) (w : World)
    (hg : Seq enS 1 w ga (txtL L)) (ha : Ints w aa (atL L)) (hp : Seq enS 1 w pa PL) (hL : GoodL L) (hm : 0 ≤ mac ∧ mac ≤ 65535) (hc : ColOk pad PL) (hn : L.length = n) (hn9 : n ≤ 1000) (hk : PL.length = k) :
    Calls Tryz.prog 20 #[.slice ga n gc, .slice aa n ac, .int .i64 pad, .slice pa k pc, .int .i64 mac] w fun e w' => RMk L PL pad mac w e w' := by
  obtain ⟨i0, hi, hz0, hz1, hz2⟩ := info_parts infoStr
  have HI := Lib.hid (And.intro hi (And.intro hz0 (And.intro hz1 hz2)))
  have hk9 : k ≤ 64 := by have := hc.len; omega
  have HG := Lib.hid hg
  have HA := Lib.hid ha
  have HP := Lib.hid hp
  have HL := Lib.hid hL
  have HM := Lib.hid hm
  have HC := Lib.hid hc
  have HN := Lib.hid hn
  have HK := Lib.hid hk
  clear hg ha hp hL hm hc hn hk hi hz0 hz1 hz2
  go_enter Tryz.func20, Tryz.ntmps20
  go_wp2_with fail
  go_loopw [11, 12] (fun out iv wr => ∃ q : Nat, q ≤ n ∧ iv = .int .i64 q ∧ wr.ownsRow w.heap.size 9 1 out q (flat enS ((gL L mac (decide (k = 0))).take q)) ∧ Below w.heap.size w wr) (fun _ iv _ => n - (intOf iv).toNat)
  case atStart => exact ⟨0, by omega, rfl, by simpa [flat] using World.ownsRow_nil _ _ _ _, Below.refl _ _⟩
  case round =>
    obtain ⟨q, hq, rfl, hown, hb⟩ := hrel
    have k0 : (0 : Int) ≤ (q : Int) := Int.natCast_nonneg _
    by_cases hqn : q < n
    · have t1 : decide (q < n) = true := decide_eq_true hqn
      have k1 : (q : Int) < (n : Int) := by omega
      obtain ⟨⟨at_, d⟩, hx⟩ : ∃ x, L[q]? = some x := ⟨_, List.getElem?_eq_getElem (by rw [HN.out]; exact hqn)⟩
      obtain ⟨b0, o0, rfl, hlt0, hcd⟩ := HG.out q d (by unfold txtL; rw [List.getElem?_map, hx]; rfl)
      have c0 : wr.cell? ⟨b0, o0 + q, none⟩ = some (.string d) := (hb.cell (p := ⟨b0, o0 + q, none⟩) hlt0).trans (hcd 0 _ rfl)
      have hlt : b0 < wr.heap.size := Nat.lt_of_lt_of_le hlt0 hb.size
      obtain ⟨b1, o1, rfl, hlt1, c1⟩ := (HA.out.below (Nat.le_refl _) hb) q (at_ : Int) (by unfold atL; rw [List.getElem?_map, hx]; rfl)
      have hck := gp_chk HL.out hx mac (decide (k = 0))
      rw [if_pos HM.out] at hck
      have hsn := gL_snoc (mac := mac) (last := decide (k = 0)) (show q < L.length by rw [HN.out]; exact hqn)
      have he := mp_enc hck
      have kr := fun V => rmbytes_any (gp L mac (decide (k = 0)) q) V hck
      rw [he] at kr
      have hgg := gp_get hx mac (decide (k = 0))
      rw [HN.out] at hgg
      obtain ⟨X, hX⟩ : ∃ X, (gp L mac (decide (k = 0)) q).enc = X := ⟨_, rfl⟩
      rw [hX] at hsn kr
      rw [hgg] at kr
      unfold Mp.vals at kr
      dsimp only at kr
      have HSN := Lib.hid hsn
      clear hck he hgg hX hcd hsn hx
      have TK : ((k : Int) == 0) = decide (k = 0) := by
        by_cases h : k = 0
        · rw [decide_eq_true h]; exact beq_iff_eq.2 (by omega)
        · rw [decide_eq_false h]; exact beq_eq_false_iff_ne.2 (by omega)
      have TQ : ((q : Int) + 1 == (n : Int)) = decide (q + 1 = n) := by
        by_cases h : q + 1 = n
        · rw [decide_eq_true h]; exact beq_iff_eq.2 (by omega)
        · rw [decide_eq_false h]; exact beq_eq_false_iff_ne.2 (by omega)
      by_cases hl : q + 1 = n
      · rw [decide_eq_true hl] at TQ kr
        rw [Bool.true_and] at kr
        clear hl
        go_wp2_with fail
        refine wp_gen (fun W => Blk W wr.heap.size 42 #[.int .i64 0, .bool true, .bool (decide (k = 0)), .int .i64 (at_ : Int)] ∧ W.ownsRow w.heap.size 9 1 u11 q (flat enS ((gL L mac (decide (k = 0))).take q)) ∧ Below w.heap.size w W ∧ W.cell? ⟨b0, o0 + q, none⟩ = some (.string d) ∧ b0 < W.heap.size) ⟨Blk.new wr 42 _, hown.alloc _, hb.alloc hb.size _, (((Below.refl wr.heap.size wr).alloc (Nat.le_refl _) (.cells #[.int .i64 0, .bool true, .bool (decide (k = 0)), .int .i64 (at_ : Int)] 42)).cell (p := ⟨b0, o0 + q, none⟩) hlt).trans c0, by simp; omega⟩ ?_
        rintro V ⟨hT, hownV, hbV, cV, hltV⟩
        obtain ⟨g, hg⟩ : ∃ g, wr.heap.size = g := ⟨_, rfl⟩
        rw [hg] at hT ⊢
        have e0 := Blk.cell (hT) 0 (v := .int .i64 0) rfl
        have e1 := Blk.cell (hT) 1 (v := .bool true) rfl
        have e2 := Blk.cell (hT) 2 (v := .bool (decide (k = 0))) rfl
        have e3 := Blk.cell (hT) 3 (v := .int .i64 (at_ : Int)) rfl
        have hgV := Blk.lt hT
        have hsV := hbV.size
        have hne : u11.ownBlock ≠ some g := fun er => by have := (hown.lt _ er).2; omega
        have hnb : u11.ownBlock ≠ some b0 := fun er => by have := (hown.lt _ er).1; omega
        have hnv : ∀ i, u11.ownBlock = some i → i < V.heap.size := fun i er => (hownV.lt i er).2
        obtain ⟨hi, hz0, hz1, hz2⟩ := HI.out
        clear hown hb c0 c1 hlt1 hg hT
        have hd : Below V.heap.size V V.drew := below_drewN (Below.refl _ _) 1
        go_region_held3 (fun w' => w'.cell? ⟨g, 0, none⟩ = some (.int .i64 0) ∧ w'.cell? ⟨g, 1, none⟩ = some (.bool true) ∧ w'.cell? ⟨g, 2, none⟩ = some (.bool (decide (k = 0))) ∧ w'.cell? ⟨g, 3, none⟩ = some (.int .i64 (at_ : Int)) ∧ w'.cell? ⟨b0, o0 + q, none⟩ = some (.string d))
          (first
            | go_keep
            | (go_split_ands
               refine ⟨?_, ?_, ?_, ?_, ?_⟩
               · (rw [hgrow.cell_far _ (by simp; omega) (Ne.symm hne)]; assumption)
               · (rw [hgrow.cell_far _ (by simp; omega) (Ne.symm hne)]; assumption)
               · (rw [hgrow.cell_far _ (by simp; omega) (Ne.symm hne)]; assumption)
               · (rw [hgrow.cell_far _ (by simp; omega) (Ne.symm hne)]; assumption)
               · (rw [hgrow.cell_far _ (by simp; omega) (Ne.symm hnb)]; assumption))
            | (go_split_ands
               refine ⟨?_, ?_, ?_, ?_, ?_⟩
               · (rw [hb9.cell (p := ⟨g, 0, none⟩) hgV]; assumption)
               · (rw [hb9.cell (p := ⟨g, 1, none⟩) hgV]; assumption)
               · (rw [hb9.cell (p := ⟨g, 2, none⟩) hgV]; assumption)
               · (rw [hb9.cell (p := ⟨g, 3, none⟩) hgV]; assumption)
               · (rw [hb9.cell (p := ⟨b0, o0 + q, none⟩) hltV]; assumption)))
          (first
            | (go_at_call 73; refine (kr V.drew).mono ?_; rintro e w9 ⟨rfl, hb9⟩; have hown9 := own_below hownV (hd.trans hb9); have hs9 : V.heap.size ≤ w9.heap.size := hb9.size)
            | (refine step_append_lies _ (by rfl) _ _ _ (by rfl) w.heap.size 9 i0 _ 1 16 Tryz.underlying29 hi hz0 hz1 hz2 rfl (by omega) u11 q (flat enS ((gL L mac (decide (k = 0))).take q)) (by rfl) (hown9.alloc _) ⟨w9.heap.size, 0, none⟩ 1 1 [.string X] (by rfl) (by rfl) (World.news_of_block (cs := #[.string X]) (t := 9) (fr := (0, 0)) (heap_alloc_new w9 _)) (by simp [Value.oneCell']) (by omega) (by unfold maxLen; omega) (by omega) (by simp; omega) (w9.heap.size + 1) (by simp) ?_; intro gg cap' w1 hown2 hgrow hat hlt2))
        have hown3 : w1.ownsRow w.heap.size 9 1 (.slice (some ⟨gg, 0, none⟩) (q + 1) cap') (q + 1) (flat enS ((gL L mac (decide (k = 0))).take (q + 1))) := by rw [HSN.out]; exact hown2
        have hb3 : Below w.heap.size w w1 := ((hbV.trans ((hd.trans hb9).mono hsV)).alloc (by omega) _).grown hgrow (by simp; omega) (fun r er => (hown9.lt r er).1)
        have HF := Lib.hid (And.intro hown3 hb3)
        clear hown2 hown3 hb3 hgrow hown9 hb9 hd hownV hbV cV e0 e1 e2 e3 hne hnb hnv kr hat hlt2
        go_wp2_with fail
        go_roundw
        case rel => exact ⟨q + 1, by omega, by go_num, HF.out.1, HF.out.2⟩
        case measure => simp [intOf]; omega
      · rw [decide_eq_false hl] at TQ kr
        rw [Bool.false_and] at kr
        clear hl
        go_wp2_with fail
        refine wp_gen (fun W => Blk W wr.heap.size 42 #[.int .i64 0, .bool false, .bool false, .int .i64 (at_ : Int)] ∧ W.ownsRow w.heap.size 9 1 u11 q (flat enS ((gL L mac (decide (k = 0))).take q)) ∧ Below w.heap.size w W ∧ W.cell? ⟨b0, o0 + q, none⟩ = some (.string d) ∧ b0 < W.heap.size) ⟨Blk.new wr 42 _, hown.alloc _, hb.alloc hb.size _, (((Below.refl wr.heap.size wr).alloc (Nat.le_refl _) (.cells #[.int .i64 0, .bool false, .bool false, .int .i64 (at_ : Int)] 42)).cell (p := ⟨b0, o0 + q, none⟩) hlt).trans c0, by simp; omega⟩ ?_
        rintro V ⟨hT, hownV, hbV, cV, hltV⟩
        obtain ⟨g, hg⟩ : ∃ g, wr.heap.size = g := ⟨_, rfl⟩
        rw [hg] at hT ⊢
        have e0 := Blk.cell (hT) 0 (v := .int .i64 0) rfl
        have e1 := Blk.cell (hT) 1 (v := .bool false) rfl
        have e2 := Blk.cell (hT) 2 (v := .bool false) rfl
        have e3 := Blk.cell (hT) 3 (v := .int .i64 (at_ : Int)) rfl
        have hgV := Blk.lt hT
        have hsV := hbV.size
        have hne : u11.ownBlock ≠ some g := fun er => by have := (hown.lt _ er).2; omega
        have hnb : u11.ownBlock ≠ some b0 := fun er => by have := (hown.lt _ er).1; omega
        have hnv : ∀ i, u11.ownBlock = some i → i < V.heap.size := fun i er => (hownV.lt i er).2
        obtain ⟨hi, hz0, hz1, hz2⟩ := HI.out
        clear hown hb c0 c1 hlt1 hg hT
        have hd : Below V.heap.size V V.drew := below_drewN (Below.refl _ _) 1
        go_region_held3 (fun w' => w'.cell? ⟨g, 0, none⟩ = some (.int .i64 0) ∧ w'.cell? ⟨g, 1, none⟩ = some (.bool false) ∧ w'.cell? ⟨g, 2, none⟩ = some (.bool false) ∧ w'.cell? ⟨g, 3, none⟩ = some (.int .i64 (at_ : Int)) ∧ w'.cell? ⟨b0, o0 + q, none⟩ = some (.string d))
          (first
            | go_keep
            | (go_split_ands
               refine ⟨?_, ?_, ?_, ?_, ?_⟩
               · (rw [hgrow.cell_far _ (by simp; omega) (Ne.symm hne)]; assumption)
               · (rw [hgrow.cell_far _ (by simp; omega) (Ne.symm hne)]; assumption)
               · (rw [hgrow.cell_far _ (by simp; omega) (Ne.symm hne)]; assumption)
               · (rw [hgrow.cell_far _ (by simp; omega) (Ne.symm hne)]; assumption)
               · (rw [hgrow.cell_far _ (by simp; omega) (Ne.symm hnb)]; assumption))
            | (go_split_ands
               refine ⟨?_, ?_, ?_, ?_, ?_⟩
               · (rw [hb9.cell (p := ⟨g, 0, none⟩) hgV]; assumption)
               · (rw [hb9.cell (p := ⟨g, 1, none⟩) hgV]; assumption)
               · (rw [hb9.cell (p := ⟨g, 2, none⟩) hgV]; assumption)
               · (rw [hb9.cell (p := ⟨g, 3, none⟩) hgV]; assumption)
               · (rw [hb9.cell (p := ⟨b0, o0 + q, none⟩) hltV]; assumption)))
          (first
            | (go_at_call 73; refine (kr V.drew).mono ?_; rintro e w9 ⟨rfl, hb9⟩; have hown9 := own_below hownV (hd.trans hb9); have hs9 : V.heap.size ≤ w9.heap.size := hb9.size)
            | (refine step_append_lies _ (by rfl) _ _ _ (by rfl) w.heap.size 9 i0 _ 1 16 Tryz.underlying29 hi hz0 hz1 hz2 rfl (by omega) u11 q (flat enS ((gL L mac (decide (k = 0))).take q)) (by rfl) (hown9.alloc _) ⟨w9.heap.size, 0, none⟩ 1 1 [.string X] (by rfl) (by rfl) (World.news_of_block (cs := #[.string X]) (t := 9) (fr := (0, 0)) (heap_alloc_new w9 _)) (by simp [Value.oneCell']) (by omega) (by unfold maxLen; omega) (by omega) (by simp; omega) (w9.heap.size + 1) (by simp) ?_; intro gg cap' w1 hown2 hgrow hat hlt2))
        have hown3 : w1.ownsRow w.heap.size 9 1 (.slice (some ⟨gg, 0, none⟩) (q + 1) cap') (q + 1) (flat enS ((gL L mac (decide (k = 0))).take (q + 1))) := by rw [HSN.out]; exact hown2
        have hb3 : Below w.heap.size w w1 := ((hbV.trans ((hd.trans hb9).mono hsV)).alloc (by omega) _).grown hgrow (by simp; omega) (fun r er => (hown9.lt r er).1)
        have HF := Lib.hid (And.intro hown3 hb3)
        clear hown2 hown3 hb3 hgrow hown9 hb9 hd hownV hbV cV e0 e1 e2 e3 hne hnb hnv kr hat hlt2
        go_wp2_with fail
        go_roundw
        case rel => exact ⟨q + 1, by omega, by go_num, HF.out.1, HF.out.2⟩
        case measure => simp [intOf]; omega
    · obtain rfl : q = n := by omega
      have t1 : decide (q < q) = false := by simp
      obtain ⟨oa, oc, rfl⟩ := own_form hown
      rw [List.take_of_length_le (by rw [gL_len, HN.out]; exact Nat.le_refl _)] at hown
      have HO0 := Lib.hid (show wr.ownsRow w.heap.size 9 1 (.slice oa q oc) (q + 0) (flat enS (gL L mac (decide (k = 0)) ++ (cL pad PL).take 0)) from by rw [List.take_zero, List.append_nil]; exact hown)
      have HB0 := Lib.hid hb
      clear hown hb
      go_wp2_with fail
      obtain ⟨wo, rfl⟩ : ∃ wo : World, wo = wr := ⟨_, rfl⟩
      go_loopw [11, 14] (fun out iv wr => ∃ j : Nat, j ≤ k ∧ iv = .int .i64 j ∧ wr.ownsRow w.heap.size 9 1 out (q + j) (flat enS (gL L mac (decide (k = 0)) ++ (cL pad PL).take j)) ∧ Below w.heap.size w wr) (fun _ iv _ => k - (intOf iv).toNat)
      case atStart => exact ⟨0, by omega, rfl, HO0.out, HB0.out⟩
      case round =>
        obtain ⟨j, hj, rfl, hown, hb⟩ := hrel
        have j0 : (0 : Int) ≤ (j : Int) := Int.natCast_nonneg _
        clear HO0 HB0
        by_cases hjk : j < k
        · have t2 : decide (j < k) = true := decide_eq_true hjk
          have j1 : (j : Int) < (k : Int) := by omega
          obtain ⟨s, hs⟩ : ∃ s, PL[j]? = some s := ⟨_, List.getElem?_eq_getElem (by rw [HK.out]; exact hjk)⟩
          obtain ⟨b0, o0, rfl, hlt0, hcd⟩ := HP.out j s hs
          have c0 : wr.cell? ⟨b0, o0 + j, none⟩ = some (.string s) := (hb.cell (p := ⟨b0, o0 + j, none⟩) hlt0).trans (hcd 0 _ rfl)
          have hlt : b0 < wr.heap.size := Nat.lt_of_lt_of_le hlt0 hb.size
          have hck := cp_chk HC.out hs
          have hsn := cL_snoc (pad := pad) (show j < PL.length by rw [HK.out]; exact hjk)
          have he := fp_enc hck
          have kr := fun V => rfbytes_any (cp pad PL j) V hck
          have hgg := cp_get hs pad
          have hz9 := sz_le (HC.out.sz s (List.mem_of_getElem? hs))
          rw [HK.out] at hgg
          obtain ⟨X, hX⟩ : ∃ X, (cp pad PL j).enc = X := ⟨_, rfl⟩
          rw [he, hX] at kr
          rw [hX] at hsn
          rw [hgg] at kr
          unfold Fp.vals at kr
          dsimp only at kr
          have HSN := Lib.hid (show flat enS (gL L mac (decide (k = 0)) ++ (cL pad PL).take (j + 1)) = flat enS (gL L mac (decide (k = 0)) ++ (cL pad PL).take j) ++ [.string X] from by rw [flat_app, hsn, ← List.append_assoc, ← flat_app])
          have EN : ((j : Int) + 1 == (k : Int)) = decide (j + 1 = k) := by
            by_cases h : j + 1 = k
            · rw [decide_eq_true h]; exact beq_iff_eq.2 (by omega)
            · rw [decide_eq_false h]; exact beq_eq_false_iff_ne.2 (by omega)
          obtain ⟨E, hE⟩ : ∃ E, decide (j + 1 = k) = E := ⟨_, rfl⟩
          rw [hE] at EN kr
          obtain ⟨A, hA⟩ : ∃ A, (j : Int) * (s.size : Int) = A := ⟨_, rfl⟩
          have hA0 : 0 ≤ A := by rw [← hA]; exact Int.mul_nonneg (by omega) (by omega)
          have hA9 : A ≤ 65536 := by rw [← hA, ← Int.natCast_mul]; have : j * s.size ≤ 64 * 1024 := Nat.mul_le_mul (by omega) hz9; omega
          rw [hA] at kr
          have hw : wrap64 ((j : Int) * (s.size : Int)) = A := by rw [hA]; unfold wrap64; omega
          rw [show (k : Int) - 1 = IntKind.i64.wrap ((k : Int) - 1) from by rw [IntKind.wrap_i64]; omega] at kr
          clear hck he hgg hX hcd hsn hs hE hA
          go_wp2_with fail
          refine wp_gen (fun W => Blk W wr.heap.size 42 #[.int .i64 0, .bool false, .bool E, .int .i64 A] ∧ W.ownsRow w.heap.size 9 1 u11 (q + j) (flat enS (gL L mac (decide (k = 0)) ++ (cL pad PL).take j)) ∧ Below w.heap.size w W ∧ W.cell? ⟨b0, o0 + j, none⟩ = some (.string s) ∧ b0 < W.heap.size) ⟨Blk.new wr 42 _, hown.alloc _, hb.alloc hb.size _, (((Below.refl wr.heap.size wr).alloc (Nat.le_refl _) (.cells #[.int .i64 0, .bool false, .bool E, .int .i64 A] 42)).cell (p := ⟨b0, o0 + j, none⟩) hlt).trans c0, by simp; omega⟩ ?_
          rintro V ⟨hT, hownV, hbV, cV, hltV⟩
          obtain ⟨g, hg⟩ : ∃ g, wr.heap.size = g := ⟨_, rfl⟩
          rw [hg] at hT ⊢
          have e0 := Blk.cell (hT) 0 (v := .int .i64 0) rfl
          have e1 := Blk.cell (hT) 1 (v := .bool false) rfl
          have e2 := Blk.cell (hT) 2 (v := .bool E) rfl
          have e3 := Blk.cell (hT) 3 (v := .int .i64 A) rfl
          have hgV := Blk.lt hT
          have hsV := hbV.size
          have hne : u11.ownBlock ≠ some g := fun er => by have := (hown.lt _ er).2; omega
          have hnb : u11.ownBlock ≠ some b0 := fun er => by have := (hown.lt _ er).1; omega
          have hnv : ∀ i, u11.ownBlock = some i → i < V.heap.size := fun i er => (hownV.lt i er).2
          obtain ⟨hi, hz0, hz1, hz2⟩ := HI.out
          clear hown hb c0 hg hT
          have hd : Below V.heap.size V V.drew := below_drewN (Below.refl _ _) 1
          go_region_held3 (fun w' => w'.cell? ⟨g, 0, none⟩ = some (.int .i64 0) ∧ w'.cell? ⟨g, 1, none⟩ = some (.bool false) ∧ w'.cell? ⟨g, 2, none⟩ = some (.bool E) ∧ w'.cell? ⟨g, 3, none⟩ = some (.int .i64 A) ∧ w'.cell? ⟨b0, o0 + j, none⟩ = some (.string s))
            (first
              | exact ⟨e0, e1, e2, e3, cV⟩
              | (go_split_ands
                 refine ⟨?_, ?_, ?_, ?_, ?_⟩
                 · (rw [((Below.refl w9.heap.size w9).alloc (Nat.le_refl _) _).cell (p := ⟨g, 0, none⟩) (show g < w9.heap.size by omega)]; assumption)
                 · (rw [((Below.refl w9.heap.size w9).alloc (Nat.le_refl _) _).cell (p := ⟨g, 1, none⟩) (show g < w9.heap.size by omega)]; assumption)
                 · (rw [((Below.refl w9.heap.size w9).alloc (Nat.le_refl _) _).cell (p := ⟨g, 2, none⟩) (show g < w9.heap.size by omega)]; assumption)
                 · (rw [((Below.refl w9.heap.size w9).alloc (Nat.le_refl _) _).cell (p := ⟨g, 3, none⟩) (show g < w9.heap.size by omega)]; assumption)
                 · (rw [((Below.refl w9.heap.size w9).alloc (Nat.le_refl _) _).cell (p := ⟨b0, o0 + j, none⟩) (show b0 < w9.heap.size by omega)]; assumption))
              | (go_split_ands
                 refine ⟨?_, ?_, ?_, ?_, ?_⟩
                 · (rw [hgrow.cell_far _ (by simp; omega) (Ne.symm hne)]; assumption)
                 · (rw [hgrow.cell_far _ (by simp; omega) (Ne.symm hne)]; assumption)
                 · (rw [hgrow.cell_far _ (by simp; omega) (Ne.symm hne)]; assumption)
                 · (rw [hgrow.cell_far _ (by simp; omega) (Ne.symm hne)]; assumption)
                 · (rw [hgrow.cell_far _ (by simp; omega) (Ne.symm hnb)]; assumption))
              | (go_split_ands
                 refine ⟨?_, ?_, ?_, ?_, ?_⟩
                 · (rw [hb9.cell (p := ⟨g, 0, none⟩) hgV]; assumption)
                 · (rw [hb9.cell (p := ⟨g, 1, none⟩) hgV]; assumption)
                 · (rw [hb9.cell (p := ⟨g, 2, none⟩) hgV]; assumption)
                 · (rw [hb9.cell (p := ⟨g, 3, none⟩) hgV]; assumption)
                 · (rw [hb9.cell (p := ⟨b0, o0 + j, none⟩) hltV]; assumption)))
            (first
              | (go_at_call 74; refine (kr V.drew).mono ?_; rintro e w9 ⟨rfl, hb9⟩; have hown9 := own_below hownV (hd.trans hb9); have hs9 : V.heap.size ≤ w9.heap.size := hb9.size)
              | (refine step_append_lies _ (by rfl) _ _ _ (by rfl) w.heap.size 9 i0 _ 1 16 Tryz.underlying29 hi hz0 hz1 hz2 rfl (by omega) u11 (q + j) (flat enS (gL L mac (decide (k = 0)) ++ (cL pad PL).take j)) (by rfl) (hown9.alloc _) ⟨w9.heap.size, 0, none⟩ 1 1 [.string X] (by rfl) (by rfl) (World.news_of_block (cs := #[.string X]) (t := 9) (fr := (0, 0)) (heap_alloc_new w9 _)) (by simp [Value.oneCell']) (by omega) (by unfold maxLen; omega) (by omega) (by simp; omega) (w9.heap.size + 1) (by simp) ?_; intro gg cap' w1 hown2 hgrow hat hlt2))
          have hown3 : w1.ownsRow w.heap.size 9 1 (.slice (some ⟨gg, 0, none⟩) (q + (j + 1)) cap') (q + (j + 1)) (flat enS (gL L mac (decide (k = 0)) ++ (cL pad PL).take (j + 1))) := by rw [HSN.out]; exact hown2
          have hb3 : Below w.heap.size w w1 := ((hbV.trans ((hd.trans hb9).mono hsV)).alloc (by omega) _).grown hgrow (by simp; omega) (fun r er => (hown9.lt r er).1)
          have HF := Lib.hid (And.intro hown3 hb3)
          clear hown2 hown3 hb3 hgrow hown9 hb9 hd hownV hbV cV e0 e1 e2 e3 hne hnb hnv kr hat hlt2
          go_wp2_with fail
          go_roundw
          case rel => exact ⟨j + 1, by omega, by go_num, HF.out.1, HF.out.2⟩
          case measure => simp [intOf]; omega
        · obtain rfl : j = k := by omega
          have t2 : decide (j < j) = false := by simp
          obtain ⟨va, vc, rfl⟩ := own_form hown
          rw [List.take_of_length_le (by rw [cL_len, HK.out]; exact Nat.le_refl _)] at hown
          have HF := Lib.hid (show RMk L PL pad mac w (.returned (.slice va (q + j) vc)) wr from ⟨hb, _, rfl, by rw [HN.out, HK.out]; exact hown⟩)
          clear hown hb
          go_wp2_with fail
          go_ret
          exact HF.out
end Go.Proofs.YtofedloikbmidaaGreatDoor.BuK
