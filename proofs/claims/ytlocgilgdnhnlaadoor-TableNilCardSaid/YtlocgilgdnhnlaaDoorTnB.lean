/- TableNil: the walk, by the contracts of what it calls. -/
import Derived.Test.YtlocgilgdnhnlaaDoorTnA
namespace Go.Proofs.YtlocgilgdnhnlaaDoor.TnB
open Go Go.RowKit Go.Proofs.YtlocgilgdnhnlaaDoor.Q Go.Proofs.YtlocgilgdnhnlaaDoor.Mem Go.Proofs.YtlocgilgdnhnlaaDoor.Rg Go.Proofs.YtlocgilgdnhnlaaDoor.Ap Go.Proofs.YtlocgilgdnhnlaaDoor.St Go.Proofs.YtlocgilgdnhnlaaDoor.TnA

set_option maxRecDepth 100000
def enO (ask at_ m : Int) (b : Nat) (text : ByteArray) : Array Value := #[.int .i64 ask, .int .i64 at_, .int .i64 m, .int .u8 (b : Int), .string text]
set_option maxHeartbeats 3200000 in
theorem law_core (ask at_ m : Int) (b : Nat) (text BY CO : ByteArray) (F : Bool) (n : Int) (w : World)
    (kaw : ∀ V : World, Below w.heap.size w V → Calls Tryd.prog 6 #[] V fun e w' => e = .returned (.bool true) ∧ Below V.heap.size V w')
    (kf : ∀ V : World, Calls Tryd.prog 11 #[.slice (some ⟨V.heap.size, 0, none⟩) 1 1] (V.alloc (.cells (enO ask at_ m b text) 42)) fun e w' => e = .returned (.bool F) ∧ V.alloc (.cells (enO ask at_ m b text) 42) = w')
    (kby : F = true → ∀ V : World, Calls Tryd.prog 17 #[.agg (enO ask at_ m b text)] V fun e w' => e = .returned (.string BY) ∧ Below V.heap.size V w')
    (kco : F = true → ∀ V : World, Calls Tryd.prog 19 #[.int .i64 m, .int .u8 (b : Int)] V fun e w' => e = .returned (.string CO) ∧ Below V.heap.size V w') :
    Calls Tryd.prog 4 #[.agg (enO ask at_ m b text), .int .i64 n] w fun e w' => e = .returned (.bool true) ∧ Below w.heap.size w w' := by
  unfold enO at *
  have hbe := (Below.refl _ w).alloc (Nat.le_refl _) (.cells #[.int .i64 ask, .int .i64 at_, .int .i64 m, .int .u8 (b : Int), .string text] 42)
  have hbk := Blk.new w 42 #[.int .i64 ask, .int .i64 at_, .int .i64 m, .int .u8 (b : Int), .string text]
  have hf0 := kf (w.alloc (.cells #[.int .i64 ask, .int .i64 at_, .int .i64 m, .int .u8 (b : Int), .string text] 42))
  rw [show (w.alloc (.cells #[.int .i64 ask, .int .i64 at_, .int .i64 m, .int .u8 (b : Int), .string text] 42)).heap.size = w.heap.size + 1 by simp] at hf0
  have HK := Lib.hid (hbk.alloc (.cells #[.int .i64 ask, .int .i64 at_, .int .i64 m, .int .u8 (b : Int), .string text] 42))
  have hbf := hbe.alloc hbe.size (.cells #[.int .i64 ask, .int .i64 at_, .int .i64 m, .int .u8 (b : Int), .string text] 42)
  have c0 := Blk.cell (hbk) 0 (v := .int .i64 ask) rfl
  have c1 := Blk.cell (hbk) 1 (v := .int .i64 at_) rfl
  have c2 := Blk.cell (hbk) 2 (v := .int .i64 m) rfl
  have c3 := Blk.cell (hbk) 3 (v := .int .u8 (b : Int)) rfl
  have c4 := Blk.cell (hbk) 4 (v := .string text) rfl
  clear kf
  cases F with
  | false =>
    clear kby kco
    go_enter Tryd.func4, Tryd.ntmps4
    go_wp2_with fail
    (with_reducible refine (hf0).mono ?_); rintro e1 W1 ⟨rfl, rfl⟩
    have ka := kaw _ hbf
    clear kaw hf0 c0 c1 c2 c3 c4
    go_wp2_with fail
    (with_reducible refine (ka).mono ?_); rintro e2 W2 ⟨rfl, hb2⟩
    have hb3 := hbf.trans (hb2.mono hbf.size)
    clear ka hb2 hbf
    go_wp2_with fail
    go_ret
    exact ⟨rfl, hb3⟩
  | true =>
    have kb2 := kby rfl
    have kc2 := kco rfl
    clear kby kco
    go_enter Tryd.func4, Tryd.ntmps4
    go_wp2_with fail
    (with_reducible refine (hf0).mono ?_); rintro e1 W1 ⟨rfl, rfl⟩
    clear hf0 c0 c1 c2 c3 c4
    go_wp2_with fail
    (with_reducible refine (at_nil n _).mono ?_); rintro e2 W2 ⟨rfl, rfl⟩
    go_wp2_with fail
    (with_reducible refine (lost_nil n _).mono ?_); rintro e3 W3 ⟨rfl, rfl⟩
    go_wp2_with fail
    (with_reducible refine (mend_nil _).mono ?_); rintro e4 W4 ⟨rfl, rfl⟩
    go_wp2_with fail
    (with_reducible refine (clear_nil _).mono ?_); rintro e5 W5 ⟨rfl, rfl⟩
    obtain ⟨W5, hW5⟩ : ∃ W5, (w.alloc (.cells #[.int .i64 ask, .int .i64 at_, .int .i64 m, .int .u8 (b : Int), .string text] 42)).alloc (.cells #[.int .i64 ask, .int .i64 at_, .int .i64 m, .int .u8 (b : Int), .string text] 42) = W5 := ⟨_, rfl⟩
    rw [hW5] at HK hbf ⊢
    have kae := fun p => kaw _ (hbf.trans ((below_ext W5 p).mono hbf.size))
    have x0 := fun p => Blk.cell (blk_ext HK.out p) 0 (v := .int .i64 ask) rfl
    have x1 := fun p => Blk.cell (blk_ext HK.out p) 1 (v := .int .i64 at_) rfl
    have x2 := fun p => Blk.cell (blk_ext HK.out p) 2 (v := .int .i64 m) rfl
    have x3 := fun p => Blk.cell (blk_ext HK.out p) 3 (v := .int .u8 (b : Int)) rfl
    have x4 := fun p => Blk.cell (blk_ext HK.out p) 4 (v := .string text) rfl
    clear hW5 hbe hbk kaw
    go_wp2_with fail
    refine Go.Proofs.YtlocgilgdnhnlaaDoor.Q.region_ext (by kernel_rfl) (by kernel_rfl) ?_
    repeat (go_big_quiet_step (first | (go_at_call 19; refine ext_call (kc2 _)) | (go_at_call 17; refine ext_call (kb2 _)) | (go_at_call 16; refine ext_call_same (put_nil _ _ _)) | (go_at_call 18; refine ext_call_same (parity_nil _ _ _)) | (go_at_call 20; refine ext_call_same (pad_nil _ _)) | (go_at_call 9; refine ext_call_same (out_nil _)) | (go_at_call 6; refine ext_call (kae _))))
    refine wpQuiet_nil ?_
    rintro w9 ⟨pq, rfl⟩
    have hbz := hbf.trans ((below_ext W5 pq).mono hbf.size)
    clear x0 x1 x2 x3 x4 kae kb2 kc2
    go_wp2_with fail
    go_ret
    exact ⟨rfl, hbz⟩
end Go.Proofs.YtlocgilgdnhnlaaDoor.TnB
