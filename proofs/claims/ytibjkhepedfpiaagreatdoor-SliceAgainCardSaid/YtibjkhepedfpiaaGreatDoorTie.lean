/-
  DERIVED. GIVEN WITH THE SEED: THE PROGRAM's TIES (one call each: nine closed facts by the kernel) AND EACH ROW's TIE, after the 31st guide's Derived/Test/Toyas{Tie, Card}.lean. No idea stands in it: it is a product of the set-up. Laid BY PROGRAM, IN A SANDBOX (cutbox-door.mjs). By AI agents, Wed Nov 11 2026. No macro, syntax, notation, axiom, sorry.
-/
import Derived.Test.YtibjkhepedfpiaaGreatDoorRows
import Derived.LaidByTextLater
import Derived.SevenTiedAt
import Derived.LaidSub
import Derived.LaidOnce
namespace Go.Proofs.YtibjkhepedfpiaaGreatDoor
open Go
set_option maxRecDepth 100000
theorem seatTie1 : Tryz.prog.laidByTextLater [("unicode/utf8.acceptRanges", Rows.laid_unicode_utf8_acceptRanges), ("clarion/packet.widths", Rows.laid_clarion_packet_widths), ("clarion/frame.sizes", Rows.laid_clarion_frame_sizes), ("clarion/fec.sizes", Rows.laid_clarion_fec_sizes)] [.data, .data, .widerDeep, .widerDeep] true :=
  Program.laidByTextLater_by_one 34 8 33 (by kernel_rfl) (by kernel_rfl) (by kernel_rfl) (by kernel_rfl) (by kernel_rfl) (by kernel_rfl) (fun _ _ => by kernel_rfl)
theorem pin_laid_unicode_utf8_first : Tryz.pinned.checked.prog.pinnedFits "unicode/utf8.first" = true := by kernel_rfl
theorem noOwnUnsafe : Tryz.pinned.checked.prog.headLifts.contains "ownunsafe" = false := by kernel_rfl
theorem tie : Tryz.prog.laidByTextLater [("clarion/fec.sizes", Rows.laid_clarion_fec_sizes)] [.widerDeep] true :=
  Program.laidByTextLater.sub seatTie1 ["clarion/fec.sizes"] (by kernel_rfl) (by kernel_rfl)
theorem sliceAgain_row_tie : Rows.sliceAgainRow.laidByTextAt .later Tryz.pinned [.widerDeep] true :=
  OpenClaim.laidByTextAt_later rfl rfl tie noOwnUnsafe
theorem tie2 : Tryz.prog.laidByTextLater [("clarion/packet.widths", Rows.laid_clarion_packet_widths), ("clarion/fec.sizes", Rows.laid_clarion_fec_sizes)] [.data, .widerDeep] true :=
  Program.laidByTextLater.sub seatTie1 ["clarion/packet.widths", "clarion/fec.sizes"] (by kernel_rfl) (by kernel_rfl)
theorem sliceDeltas_row_tie : Rows.sliceDeltasRow.laidByTextAt .later Tryz.pinned [.data, .widerDeep] true :=
  OpenClaim.laidByTextAt_later rfl rfl tie2 noOwnUnsafe
theorem fits3 : Tryz.pinned.checked.prog.listedFits [("unicode/utf8.acceptRanges", Rows.laid_unicode_utf8_acceptRanges), ("clarion/packet.widths", Rows.laid_clarion_packet_widths), ("clarion/frame.sizes", Rows.laid_clarion_frame_sizes), ("clarion/fec.sizes", Rows.laid_clarion_fec_sizes), ("unicode/utf8.first", Rows.laid_unicode_utf8_first)] = true := by
  unfold Program.listedFits
  rw [noOwnUnsafe]
  kernel_rfl
theorem tie3 : Tryz.prog.laidByTextLater [("unicode/utf8.acceptRanges", Rows.laid_unicode_utf8_acceptRanges), ("clarion/packet.widths", Rows.laid_clarion_packet_widths), ("clarion/frame.sizes", Rows.laid_clarion_frame_sizes), ("clarion/fec.sizes", Rows.laid_clarion_fec_sizes)] [.data, .data, .widerDeep, .widerDeep] true :=
  Program.laidByTextLater.sub seatTie1 ["unicode/utf8.acceptRanges", "clarion/packet.widths", "clarion/frame.sizes", "clarion/fec.sizes"] (by kernel_rfl) (by kernel_rfl)
theorem topStamps_row_tie : Rows.topStampsRow.laidByTextAt .later Tryz.pinned [.data, .data, .widerDeep, .widerDeep, .pinned] true :=
  OpenClaim.laidByTextAt_pinned rfl rfl tie3 rfl rfl rfl rfl (fun y hy _e => by
    simp only [Rows.topStampsRow, List.zip_cons_cons, List.zip_nil_right, List.mem_cons, List.mem_nil_iff, or_false] at hy
    rcases hy with rfl | rfl | rfl | rfl | rfl
    · cases _e
    · cases _e
    · cases _e
    · cases _e
    · exact ⟨pin_laid_unicode_utf8_first, by kernel_rfl⟩) fits3
theorem sliceAgainUpto_row_tie : Rows.sliceAgainUptoRow.laidByTextAt .later Tryz.pinned [.widerDeep] true :=
  OpenClaim.laidByTextAt_later rfl rfl tie noOwnUnsafe
theorem sliceDeltasUpto_row_tie : Rows.sliceDeltasUptoRow.laidByTextAt .later Tryz.pinned [.data, .widerDeep] true :=
  OpenClaim.laidByTextAt_later rfl rfl tie2 noOwnUnsafe
theorem topStampsUpto_row_tie : Rows.topStampsUptoRow.laidByTextAt .later Tryz.pinned [.data, .data, .widerDeep, .widerDeep, .pinned] true :=
  OpenClaim.laidByTextAt_pinned rfl rfl tie3 rfl rfl rfl rfl (fun y hy _e => by
    simp only [Rows.topStampsUptoRow, List.zip_cons_cons, List.zip_nil_right, List.mem_cons, List.mem_nil_iff, or_false] at hy
    rcases hy with rfl | rfl | rfl | rfl | rfl
    · cases _e
    · cases _e
    · cases _e
    · cases _e
    · exact ⟨pin_laid_unicode_utf8_first, by kernel_rfl⟩) fits3
end Go.Proofs.YtibjkhepedfpiaaGreatDoor
