/- clarionlaw08.plain of a list. -/
import Derived.Test.YtpigkccfepmmgaaSpB
namespace Go.Proofs.Ytpigkccfepmmgaa.RpA
open Go Go.RowKit Go.Proofs.Ytpigkccfepmmgaa.Q Go.Proofs.Ytpigkccfepmmgaa.Mem Go.Proofs.Ytpigkccfepmmgaa.Rg Go.Proofs.Ytpigkccfepmmgaa.Ap Go.Proofs.Ytpigkccfepmmgaa.St Go.Proofs.Ytpigkccfepmmgaa.SeA Go.Proofs.Ytpigkccfepmmgaa.SeE Go.Proofs.Ytpigkccfepmmgaa.SpA Go.Proofs.Ytpigkccfepmmgaa.SpB
theorem elemTR : Elem Try.prog 39 28 8 72 := elem_of Try.underlying39 (z := .agg #[.int .i64 0, .bool false, .int .i64 0, .int .i64 0, .bool false, .int .i64 0, .int .i64 0, .string nob]) (by kernel_rfl) rfl (by decide)
theorem take_snoc {L : List Sc} {k : Nat} {s : Sc} (h : L[k]? = some s) : L.take (k + 1) = L.take k ++ [s] := by rw [List.take_add_one, h]; rfl
set_option maxRecDepth 100000
set_option maxHeartbeats 1600000 in
theorem plains_any (a : Option Addr) (n c : Nat) (L : List Sc) (w : World) (hn : L.length = n) (hl : n ≤ 100000) (hL : Seq enSc 8 w a L) :
    Calls Try.prog 20 #[.slice a n c] w fun e w' => (∃ a' c', e = .returned (.slice a' n c') ∧ Seq enSc 8 w' a' L) ∧ Below w.heap.size w w' := by
  have HL := Lib.hid hL
  have HN := Lib.hid hn
  clear hL hn
  go_enter Try.func20, Try.ntmps20
  go_wp2_with fail
  go_loopw [3, 4] (fun v i wr => ∃ k : Nat, k ≤ n ∧ i = .int .i64 k ∧ wr.ownsRow w.heap.size 28 8 v k (flat enSc (L.take k)) ∧ Below w.heap.size w wr) (fun _ i _ => n - (intOf i).toNat)
  case atStart => exact ⟨0, by omega, rfl, World.ownsRow_nil _ _ _ _, Below.refl _ _⟩
  case round =>
    obtain ⟨k, hk, rfl, hown, hb⟩ := hrel
    by_cases hkl : k < n
    · have t0 : decide ((k : Int) < (n : Int)) = true := by simp; omega
      obtain ⟨s, hs⟩ : ∃ s, L[k]? = some s := ⟨_, List.getElem?_eq_getElem (by rw [HN.out]; exact hkl)⟩
      have HT := Lib.hid (take_snoc hs)
      have kp := fun V => plain_any s V
      obtain ⟨t, p, e, v, nn, m, l, x⟩ := s
      obtain ⟨b1, o1, rfl, hlt, c0, c1, c2, c3, c4, c5, c6, c7⟩ := seq_cells (HL.out.below (Nat.le_refl _) hb) hs
      unfold Sc.vals at kp
      dsimp only at kp
      have k0 : (0 : Int) ≤ (k : Int) := Int.natCast_nonneg _
      have k1 : (k : Int) < (n : Int) := by omega
      have HB := Lib.hid hb
      have hbs := hb.size
      clear hs hlt hb
      go_wp2_with fail
      (with_reducible refine (kp _).mono ?_); rintro e1 W1 ⟨rfl, hb1⟩
      have hown2 := (own_below hown hb1).alloc (.cells #[.int .i64 t, .bool p, .int .i64 e, .int .i64 v, .bool nn, .int .i64 m, .int .i64 l, .string x] 28)
      have hb2 := HB.out.trans (hb1.mono hbs)
      have hbs2 := hb2.size
      have HB2 := Lib.hid hb2
      clear kp hown hb1 hb2 c0 c1 c2 c3 c4 c5 c6 c7
      go_wp2_with (first
        | (at_builtin; (refine wpList_app rfl _ _ rfl elemTR rfl hown2 rfl rfl (blk_news (Blk.new W1 28 #[.int .i64 t, .bool p, .int .i64 e, .int .i64 v, .bool nn, .int .i64 m, .int .i64 l, .string x])) (by simp [Value.oneCell']) (by omega) (by unfold maxLen; omega) (by simp; omega) ?_)
           intro v9 w8 hown9 hb8)
        | fail)
      have hown3 : w8.ownsRow w.heap.size 28 8 v9 (k + 1) (flat enSc (L.take (k + 1))) := by
        rw [HT.out, flat_app]; exact hown9
      have hb9 : Below w.heap.size w w8 := (HB2.out.alloc (by omega) _).trans hb8
      clear hown9 hown2 hb8
      go_roundw
      case rel => exact ⟨k + 1, by omega, by go_num, hown3, hb9⟩
      case measure => simp [intOf]; omega
    · obtain rfl : k = n := by omega
      have t0 : decide ((k : Int) < (k : Int)) = false := by simp
      rw [show L.take k = L by rw [← HN.out, List.take_length]] at hown
      obtain ⟨a', c', rfl⟩ := own_form hown
      have HS := Lib.hid (own_seq enSc_len hown HN.out)
      have HBE := Lib.hid hb
      clear hown hb
      go_wp2_with fail
      go_ret
      exact ⟨⟨a', c', rfl, HS.out⟩, HBE.out⟩
end Go.Proofs.Ytpigkccfepmmgaa.RpA
