/- table: spot, place, set, New. -/
import Derived.Test.YtlocgilgdnhnlaaGreatDoorTbM
namespace Go.Proofs.YtlocgilgdnhnlaaGreatDoor.TbN
open Go Go.RowKit Go.Proofs.YtlocgilgdnhnlaaGreatDoor.Q Go.Proofs.YtlocgilgdnhnlaaGreatDoor.Mem Go.Proofs.YtlocgilgdnhnlaaGreatDoor.Rg Go.Proofs.YtlocgilgdnhnlaaGreatDoor.Ap Go.Proofs.YtlocgilgdnhnlaaGreatDoor.ApG Go.Proofs.YtlocgilgdnhnlaaGreatDoor.St Go.Proofs.YtlocgilgdnhnlaaGreatDoor.BiW Go.Proofs.YtlocgilgdnhnlaaGreatDoor.Tab Go.Proofs.YtlocgilgdnhnlaaGreatDoor.TlS Go.Proofs.YtlocgilgdnhnlaaGreatDoor.Fl Go.Proofs.YtlocgilgdnhnlaaGreatDoor.TbM

set_option maxRecDepth 100000
theorem spot_any (w : World) (B gt gr p : Nat) (v : Value) (S : Tb) (h : TbIn w B gt gr v S) (hR : S.R ≤ 1024) (hp : p < 255 * S.R) : Calls Tryz.prog 45 #[.pointer (some ⟨gt, 0, none⟩), .int .i64 p] w fun e w' => e = .returned (.complex .f64 (fl (p / S.R)) (fl (p % S.R))) ∧ Below w.heap.size w w' := by
  have c0 := fun q => Blk.cell (blk_ext h.box q) 0 (v := .slice (some ⟨gr, 0, none⟩) S.R S.R) rfl
  obtain ⟨R, hRR⟩ : ∃ R, S.R = R := ⟨_, rfl⟩
  rw [hRR] at c0 hR hp ⊢
  have hR0 : R ≠ 0 := by omega
  have HX := Lib.hid (And.intro (ofInt_fl (p / R)) (ofInt_fl (p % R)))
  clear h hRR
  go_enter Tryz.func45, Tryz.ntmps45
  go_wp2_with fail
  refine Go.Proofs.YtlocgilgdnhnlaaGreatDoor.Q.region_ext (by kernel_rfl) (by kernel_rfl) ?_
  repeat (go_big_quiet_step (fail))
  refine wpQuiet_nil ?_
  rintro w9 ⟨pq, rfl⟩
  go_wp2_with fail
  go_ret
  refine ⟨?_, below_ext w pq⟩
  have h1 : p / R < 255 := (Nat.div_lt_iff_lt_mul (by omega)).2 hp
  have h2 : wrap64 ((p : Int) / (R : Int)) = ((p / R : Nat) : Int) := by
    rw [← Int.natCast_ediv]
    obtain ⟨x, hx⟩ : ∃ x, p / R = x := ⟨_, rfl⟩
    rw [hx] at h1 ⊢
    unfold wrap64
    omega
  have h3 : (p : Int) % (R : Int) = ((p % R : Nat) : Int) := (Int.natCast_emod p R).symm
  rw [← HX.out.1, ← HX.out.2, ← h2, ← h3]
  rfl
theorem place_any (w : World) (B gt gr p : Nat) (v : Value) (S : Tb) (h : TbIn w B gt gr v S) (hR : S.R ≤ 1024) (hp : p < 255 * S.R) : Calls Tryz.prog 34 #[.pointer (some ⟨gt, 0, none⟩), .int .i64 p] w fun e w' => e = .returned (.tuple #[.pointer (some ⟨gr, p % S.R * 510, none⟩), .int .i64 ((p / S.R : Nat) : Int)]) ∧ Below w.heap.size w w' := by
  have ks := spot_any w B gt gr p v S h hR hp
  have hcv := fun (n : Nat) (hn : n < 1024) (V : World) => run_cint (P := Tryz.prog) (w := V) 77 3 n (by kernel_rfl) Tryz.underlying3 (by omega)
  obtain ⟨h1, h2, h3⟩ := div_lt hp
  have k1 := hcv (p / S.R) (Nat.lt_of_lt_of_le h2 (by decide))
  have k2 := hcv (p % S.R) (Nat.lt_of_lt_of_le h1 hR)
  have HB := Lib.hid h.box
  have j1 : (0 : Int) ≤ ((p % S.R : Nat) : Int) := Int.natCast_nonneg _
  have j2 : ((p % S.R : Nat) : Int) < (S.R : Int) := Int.ofNat_lt.2 h1
  clear h hcv h1 h2 h3 hp hR
  obtain ⟨x, hx⟩ : ∃ x, p / S.R = x := ⟨_, rfl⟩
  obtain ⟨y, hy⟩ : ∃ y, p % S.R = y := ⟨_, rfl⟩
  rw [hx, hy] at ks
  rw [hx] at k1
  rw [hy] at k2 j1 j2
  rw [hx, hy]
  obtain ⟨R, hRR⟩ : ∃ R, S.R = R := ⟨_, rfl⟩
  rw [hRR] at HB j2
  clear hRR hx hy
  go_enter Tryz.func34, Tryz.ntmps34
  go_wp2_with fail
  (with_reducible refine (ks).mono ?_); rintro e1 W1 ⟨rfl, hb1⟩
  have c0 := Blk.cell (Blk.below HB.out hb1 HB.out.lt) 0 (v := .slice (some ⟨gr, 0, none⟩) R R) rfl
  clear ks
  go_wp2_with fail
  go_ret2
  exact ⟨rfl, hb1⟩
theorem Fm.drew {w : World} {g n : Nat} {t : TypeId} {f : Nat → Value} (h : Fm w g t n f) : Fm w.drew g t n f := h
theorem set_row (w : World) (g n r c : Nat) (f : Nat → Value) (x : Int) (h : Fm w g 64 n f) (hc : c < 255) (hn : r * 510 + 510 ≤ n) :
    Calls Tryz.prog 32 #[.pointer (some ⟨g, r * 510, none⟩), .int .i64 c, .int .u8 x] w fun e w' => e = .returned (.tuple #[]) ∧ Fm w' g 64 n (fun k => if k = r * 510 + 255 + c then .bool true else if k = r * 510 + c then .int .u8 x else f k) ∧ Kept (· = g) w w' := by
  have hD := Fm.drew h
  have d0 := hD.cell (r * 510 + c) (by omega)
  have d1 := hD.cell (r * 510 + 255 + c) (by omega)
  have g0 := hD.frozen (r * 510 + c)
  have g1 := hD.frozen (r * 510 + 255 + c)
  have hA := hD.put (r * 510 + c) (.int .u8 x)
  have hB := hD.put (r * 510 + 255 + c) (.bool true)
  have p1 := hA.cell (r * 510 + 255 + c) (by omega)
  have p2 := hA.frozen (r * 510 + 255 + c)
  have p3 := hB.cell (r * 510 + c) (by omega)
  have p4 := hB.frozen (r * 510 + c)
  have q1 : (w.setCell ⟨g, r * 510 + c, none⟩ (.int .u8 x)).drew.cell? ⟨g, r * 510 + 255 + c, none⟩ = some _ := p1
  have q2 : (w.setCell ⟨g, r * 510 + c, none⟩ (.int .u8 x)).drew.frozen? ⟨g, r * 510 + 255 + c, none⟩ = false := p2
  have q3 : (w.setCell ⟨g, r * 510 + 255 + c, none⟩ (.bool true)).drew.cell? ⟨g, r * 510 + c, none⟩ = some _ := p3
  have q4 : (w.setCell ⟨g, r * 510 + 255 + c, none⟩ (.bool true)).drew.frozen? ⟨g, r * 510 + c, none⟩ = false := p4
  have hAB := hA.put (r * 510 + 255 + c) (.bool true)
  have hBA := hB.put (r * 510 + c) (.int .u8 x)
  have HAB := Lib.hid hAB
  have HBA := Lib.hid hBA
  have k0 : (0 : Int) ≤ (c : Int) := Int.natCast_nonneg _
  have k1 : (c : Int) < 255 := by omega
  clear h hD hA hB hAB hBA
  go_enter Tryz.func32, Tryz.ntmps32
  go_wp2_with fail
  go_region
  go_wp2_with fail
  go_end0
  refine ⟨rfl, HAB.out, ?_⟩
  have h1 : Kept (· = g) w (w.setCell ⟨g, r * 510 + c, none⟩ (.int .u8 x)) := kept_set rfl
  have h2 := h1.trans (kept_set (a := w.setCell ⟨g, r * 510 + c, none⟩ (.int .u8 x)) (p := ⟨g, r * 510 + 255 + c, none⟩) (u := .bool true) (F := (· = g)) rfl) (fun _ _ h => h)
  exact ⟨h2.os, h2.tape, h2.output, h2.size, h2.block⟩
theorem tb_rows {w w' : World} {B gt gr : Nat} {v : Value} {S S' : Tb} (h : TbIn w B gt gr v S) (k : Kept (· = gr) w w') (hR : S'.R = S.R) (hs : S'.st = S.st) (hr : Fm w' gr 64 (S.R * 510) (rowF S')) : TbIn w' B gt gr v S' := by
  refine ⟨?_, ?_, ?_, h.ne, h.nt, h.nr, h.bt, h.br⟩
  · rw [hR]; exact (k.block gt h.box.lt h.ne).trans h.box
  · rw [hR]; exact hr
  · rw [hs]
    refine ⟨h.st.1, ?_⟩
    rcases h.st.2 with h1 | ⟨g, cap, cur, e, hb, hg, h2⟩
    · exact Or.inl h1
    · refine Or.inr ⟨g, cap, cur, e, hb, ?_, h2⟩
      rw [k.block g (Array.getElem?_eq_some_iff.1 hg).1 (fun e2 => h.nr (by rw [e, e2]; rfl))]
      exact hg
theorem set_any (w : World) (B gt gr r c : Nat) (v : Value) (S : Tb) (x : UInt8) (h : TbIn w B gt gr v S) (hc : c < 255) (hr : r < S.R) :
    Calls Tryz.prog 32 #[.pointer (some ⟨gr, r * 510, none⟩), .int .i64 c, .int .u8 (x.toNat : Int)] w fun e w' => e = .returned (.tuple #[]) ∧ TbIn w' B gt gr v (S.set (c * S.R + r) x) ∧ Kept (· = gr) w w' := by
  refine (set_row w gr (S.R * 510) r c (rowF S) x.toNat h.rows hc (by
    have : (r + 1) * 510 ≤ S.R * 510 := Nat.mul_le_mul_right _ hr
    omega)).mono ?_
  rintro e w' ⟨rfl, hf, hk⟩
  exact ⟨rfl, tb_rows h hk rfl rfl (hf.congr (fun i hi => rowF_set S r c x hr hc i hi)), hk⟩
end Go.Proofs.YtlocgilgdnhnlaaGreatDoor.TbN
