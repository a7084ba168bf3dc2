/- Layer 8's law: few, Plain, the example. -/
import Derived.Test.YtpigkccfepmmgaaSeD
namespace Go.Proofs.Ytpigkccfepmmgaa.SeE
open Go Go.RowKit Go.Proofs.Ytpigkccfepmmgaa.Q Go.Proofs.Ytpigkccfepmmgaa.Mem Go.Proofs.Ytpigkccfepmmgaa.Rg Go.Proofs.Ytpigkccfepmmgaa.Ap Go.Proofs.Ytpigkccfepmmgaa.St Go.Proofs.Ytpigkccfepmmgaa.BiP Go.Proofs.Ytpigkccfepmmgaa.CrC Go.Proofs.Ytpigkccfepmmgaa.CrD Go.Proofs.Ytpigkccfepmmgaa.SeA Go.Proofs.Ytpigkccfepmmgaa.SeC Go.Proofs.Ytpigkccfepmmgaa.SeD

/-- what Encode says -/
def encS (s : Sc) : ByteArray := if s.chk = 0 then bytesS s else nob
theorem chk_zero {s : Sc} (h : s.chk = 0) : s.ok ∧ ¬ 4084 < s.body.size := by
  unfold Sc.chk at h
  split at h
  · rename_i hk
    split at h
    · omega
    · rename_i hb; exact ⟨hk, hb⟩
  · omega
theorem enc_any (s : Sc) (w : World) : Calls Try.prog 13 #[.agg s.vals] w fun e w' => e = .returned (.tuple #[.string (encS s), .int .i64 s.chk]) ∧ Below w.heap.size w w' := by
  unfold encS
  by_cases h : s.chk = 0
  · obtain ⟨h1, h2⟩ := chk_zero h
    rw [if_pos h, h]
    exact enc_ok s w h1 h2
  · rw [if_neg h]
    exact enc_bad s w h
set_option maxRecDepth 100000
def fewB (s : ByteArray) : Bool := decide (s.size ≤ 600) || (decide (4084 < s.size) && decide (s.size ≤ 5000))
theorem fewB_le {s : ByteArray} (h : fewB s = true) : s.size ≤ 5000 := by simp [fewB] at h; omega
theorem few_any (s : ByteArray) (w : World) : Calls Try.prog 9 #[.string s] w fun e w' => e = .returned (.bool (fewB s)) ∧ w = w' := by
  obtain ⟨b, hb⟩ : ∃ b, fewB s = b := ⟨_, rfl⟩
  have HB := Lib.hid hb
  rw [hb]
  clear hb
  unfold fewB at HB
  by_cases h1 : s.size ≤ 600
  · have t1 : decide ((s.size : Int) ≤ 600) = true := by simp; omega
    replace HB := Lib.hid (show b = true by rw [← HB.out]; simp [h1])
    clear h1
    go_enter Try.func9, Try.ntmps9
    go_wp2_with fail
    go_ret
    exact ⟨by rw [HB.out]; rfl, rfl⟩
  · have t1 : decide ((s.size : Int) ≤ 600) = false := by simp; omega
    by_cases h2 : 4084 < s.size
    · have t2 : decide (4084 < (s.size : Int)) = true := by simp; omega
      by_cases h3 : s.size ≤ 5000
      · have t3 : decide ((s.size : Int) ≤ 5000) = true := by simp; omega
        replace HB := Lib.hid (show b = true by rw [← HB.out]; simp [h2, h3])
        clear h1 h2 h3
        go_enter Try.func9, Try.ntmps9
        go_wp2_with fail
        go_ret
        exact ⟨by rw [HB.out]; rfl, rfl⟩
      · have t3 : decide ((s.size : Int) ≤ 5000) = false := by simp; omega
        replace HB := Lib.hid (show b = false by rw [← HB.out]; simp [h1, h3])
        clear h1 h2 h3
        go_enter Try.func9, Try.ntmps9
        go_wp2_with fail
        go_ret
        exact ⟨by rw [HB.out]; rfl, rfl⟩
    · have t2 : decide (4084 < (s.size : Int)) = false := by simp; omega
      replace HB := Lib.hid (show b = false by rw [← HB.out]; simp [h1, h2])
      clear h1 h2
      go_enter Try.func9, Try.ntmps9
      go_wp2_with fail
      go_ret
      exact ⟨by rw [HB.out]; rfl, rfl⟩
theorem plain_any (s : Sc) (w : World) : Calls Try.prog 12 #[.agg s.vals] w fun e w' => e = .returned (.agg s.vals) ∧ Below w.heap.size w w' := by
  obtain ⟨t, p, e, v, n, m, l, b⟩ := s
  unfold Sc.vals
  dsimp only
  have HB := Lib.hid (bk2 w 23 28 #[.int .i64 t, .bool p, .int .i64 e, .int .i64 v, .bool n, .int .i64 m, .int .i64 l, .string b] #[.int .i64 0, .bool false, .int .i64 0, .int .i64 0, .bool false, .int .i64 0, .int .i64 0, .string nob])
  have HZ := Lib.hid (HB.out.nth 0 rfl)
  go_enter Try.func12, Try.ntmps12
  go_wp2_with (refine wpList_store_blk (g := w.heap.size + 1) (T := 28) (cs' := #[.int .i64 t, .bool p, .int .i64 e, .int .i64 v, .bool n, .int .i64 m, .int .i64 l, .string b]) rfl 28 _ _ rfl rfl rfl HZ.out (by kernel_rfl) (by kernel_rfl) (by kernel_rfl) (by kernel_rfl) ?_; intro W9 hW9 hg9 hz9)
  exact bodyPost_ret (v := .agg #[.int .i64 t, .bool p, .int .i64 e, .int .i64 v, .bool n, .int .i64 m, .int .i64 l, .string b]) (results_cell_row rfl _ _ (w.heap.size + 1) 28 _ (0, 0) _ rfl hW9 Try.underlying28 rfl (by kernel_rfl)) rfl ⟨rfl, HB.out.be.trans (below_of_only hg9 HB.out.size (fun k hk => by injection hk with hk; omega))⟩
def hiS : Sc := ⟨66, false, 0, 0, true, 0, 0, str [104, 105]⟩
theorem awake_any (w : World) : Calls Try.prog 10 #[] w fun e w' => e = .returned (.bool true) ∧ Below w.heap.size w w' := by
  have k1 := fun V => enc_ok hiS V (by decide) (by decide)
  have k2 := fun V => Go.Proofs.Ytpigkccfepmmgaa.CrD.rseal_any (str [66, 176, 11, 0, 0, 193, 0, 0, 104, 105]) V (by decide)
  rw [show bytesS hiS = str (sealL (bl (str [66, 176, 11, 0, 0, 193, 0, 0, 104, 105]))) from rfl] at k1
  obtain ⟨Z, hZ⟩ : ∃ Z, str (sealL (bl (str [66, 176, 11, 0, 0, 193, 0, 0, 104, 105]))) = Z := ⟨_, rfl⟩
  rw [hZ] at k1 k2
  unfold Sc.vals hiS str at k1
  unfold str at k2
  dsimp only at k1 k2
  clear hZ
  go_enter Try.func10, Try.ntmps10
  go_wp2_with fail
  (with_reducible refine (k1 _).mono ?_); rintro e1 W1 ⟨rfl, hb1⟩
  go_wp2_with fail
  (with_reducible refine (k2 _).mono ?_); rintro e1 W2 ⟨rfl, hb2⟩
  have hE := hb1.trans (hb2.mono hb1.size)
  go_wp2_with fail
  go_ret
  exact ⟨rfl, hE⟩
end Go.Proofs.Ytpigkccfepmmgaa.SeE
