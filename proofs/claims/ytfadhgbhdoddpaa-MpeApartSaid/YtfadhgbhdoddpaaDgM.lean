/- The document's Make4: a datagram of version 4; it may be. -/
import Derived.Test.YtfadhgbhdoddpaaDgG
import Derived.Test.YtfadhgbhdoddpaaInts
namespace Go.Proofs.Ytfadhgbhdoddpaa.DgM
open Go Go.RowKit Go.Proofs.Ytfadhgbhdoddpaa.Q Go.Proofs.Ytfadhgbhdoddpaa.Mem Go.Proofs.Ytfadhgbhdoddpaa.Rg Go.Proofs.Ytfadhgbhdoddpaa.Ap Go.Proofs.Ytfadhgbhdoddpaa.St Go.Proofs.Ytfadhgbhdoddpaa.Ints Go.Proofs.Ytfadhgbhdoddpaa.BiH Go.Proofs.Ytfadhgbhdoddpaa.SeI Go.Proofs.Ytfadhgbhdoddpaa.SeEq Go.Proofs.Ytfadhgbhdoddpaa.DgP Go.Proofs.Ytfadhgbhdoddpaa.DgB Go.Proofs.Ytfadhgbhdoddpaa.DgC Go.Proofs.Ytfadhgbhdoddpaa.DgD

set_option maxRecDepth 100000 in
theorem text7_any (a : Option Addr) (c m : Nat) (L : List Int) (w : World) (hm : L.length = m) (hl : L.length ≤ 1000) (hL : Ints w a L) (hv : inB 255 L = true) :
    Calls Try.prog 58 #[.slice a m c] w fun e w' => e = .returned (.string (strOfNums L)) ∧ Below w.heap.size w w' := by
  subst hm
  have HL := Lib.hid hL
  clear hL
  go_enter Try.func58, Try.ntmps58
  go_wp2_with fail
  go_loopw [3, 4] (fun out i wr => ∃ (k : Nat) (b : ByteArray), k ≤ L.length ∧ out = .string b ∧ i = .int .i64 k ∧ Hid (b = strOfNums (L.take k)) ∧ b.size ≤ k ∧ Below w.heap.size w wr) (fun _ i _ => L.length - (intOf i).toNat)
  case atStart => exact ⟨0, nob, by omega, rfl, rfl, Lib.hid rfl, Nat.zero_le _, Below.refl _ _⟩
  case round =>
    obtain ⟨k, b, hk, rfl, rfl, hI, hbs, hb⟩ := hrel
    by_cases hkl : k < L.length
    · have t0 : decide (k < L.length) = true := by simpa using hkl
      obtain ⟨x, hx⟩ : ∃ x, L[k]? = some x := ⟨L[k], List.getElem?_eq_getElem hkl⟩
      have hx1 : 0 ≤ x ∧ x ≤ 255 := by
        have := List.all_eq_true.1 hv x (List.mem_of_getElem? hx)
        simpa [in1] using this
      obtain ⟨b1, o1, rfl, l1, c1⟩ := HL.out.below (Nat.le_refl _) hb k x hx
      have q2 : IntKind.u8.wrap x = x := by rw [IntKind.wrap_u8]; omega
      have hcv := conv_new wr [x] 1 wr.heap.size #[.int .u8 x] rfl rfl rfl
      have hadd : ∀ U : World, (Op.stringOp .add b (strOfNums [x])).run Try.prog U = .ok (.string (b ++ strOfNums [x])) U := fun U => run_string_add_sum U _ _ (by rw [son_size]; simp only [List.length_cons, List.length_nil]; omega)
      have hnew : b ++ strOfNums [x] = strOfNums (L.take (k + 1)) := by
        rw [hI.out, son_append, List.take_add_one, hx]
        rfl
      have hbs2 : (b ++ strOfNums [x]).size ≤ k + 1 := by rw [ByteArray.size_append, son_size]; simp only [List.length_cons, List.length_nil]; omega
      have HN := Lib.hid hnew
      have hb2 := hb.alloc hb.size (.cells #[.int .u8 x] 5)
      clear hnew hx hx1 hb hv
      go_wp2_with fail
      go_roundw
      case rel => exact ⟨k + 1, _, by omega, rfl, by go_num, HN, hbs2, hb2⟩
      case measure => simp [intOf]; omega
    · obtain rfl : k = L.length := by omega
      have t0 : decide (L.length < L.length) = false := by simp
      have HB := Lib.hid (hI.out.trans (by rw [List.take_length]))
      clear hI
      go_wp2_with fail
      go_ret
      exact ⟨by rw [HB.out]; rfl, hb⟩
def mkN (n : Nat) (p : Int) : List Int := [69, 0, (n : Int) / 256, (n : Int) % 256, 0, 0, 0, 0, 64, p]
/-- the check sum of a header -/
def mkC (f t : ByteArray) (p : Int) (n : Nat) : Nat := dsum (strOfNums (mkN n p) ++ str [0, 0] ++ f ++ t)
def mkD (f t : ByteArray) (p : Int) (b : ByteArray) : ByteArray :=
  strOfNums (mkN (20 + b.size) p) ++ strOfNums [(mkC f t p (20 + b.size) : Int) / 256, (mkC f t p (20 + b.size) : Int) % 256] ++ f ++ t ++ b
set_option maxRecDepth 100000
set_option maxHeartbeats 800000 in
theorem make_any (f t b : ByteArray) (p : Int) (w : World) (hf : f.size ≤ 16) (ht : t.size ≤ 16) (hb : b.size ≤ 4060) (hp : 0 ≤ p ∧ p ≤ 255) : Calls Try.prog 35 #[.string f, .string t, .int .i64 p, .string b] w fun e w' => e = .returned (.tuple #[.string (mkD f t p b), .int .i64 0]) ∧ Below w.heap.size w w' := by
  obtain ⟨hp1, hp2⟩ := hp
  have HT := Lib.hid (fun (a : Option Addr) (W : World) (h : Ints W a (mkN (20 + b.size) p)) => text7_any a 10 10 (mkN (20 + b.size) p) W rfl (by simp [mkN]) h (by simp [inB, in1, mkN]; omega))
  have HT2 := Lib.hid (fun (a : Option Addr) (W : World) (c : Nat) (hc : c ≤ 65535) (h : Ints W a [(c : Int) / 256, (c : Int) % 256]) => text7_any a 2 2 [(c : Int) / 256, (c : Int) % 256] W rfl (by simp) h (by simp [inB, in1]; omega))
  have ks := fun V => rsum_any (strOfNums (mkN (20 + b.size) p) ++ str [0, 0] ++ f ++ t) V (by rw [ByteArray.size_append, ByteArray.size_append, ByteArray.size_append, son_size, str_size]; simp [mkN]; omega)
  have hN : mkN (20 + b.size) p = [69, 0, (20 + (b.size : Int)) / 256, (20 + (b.size : Int)) % 256, 0, 0, 0, 0, 64, p] := by unfold mkN; simp
  have hD : mkD f t p b = strOfNums (mkN (20 + b.size) p) ++ strOfNums [(mkC f t p (20 + b.size) : Int) / 256, (mkC f t p (20 + b.size) : Int) % 256] ++ f ++ t ++ b := rfl
  have hcle : mkC f t p (20 + b.size) ≤ 65535 := dsum_le _
  have hsz : (strOfNums (mkN (20 + b.size) p)).size = 10 := by rw [son_size]; rfl
  rw [show dsum (strOfNums (mkN (20 + b.size) p) ++ str [0, 0] ++ f ++ t) = mkC f t p (20 + b.size) from rfl] at ks
  obtain ⟨C, hC⟩ : ∃ C, mkC f t p (20 + b.size) = C := ⟨_, rfl⟩
  rw [hC] at ks hD hcle
  obtain ⟨H, hH⟩ : ∃ H, strOfNums (mkN (20 + b.size) p) = H := ⟨_, rfl⟩
  rw [hH] at ks hD HT hsz
  obtain ⟨K, hK⟩ : ∃ K, strOfNums [(C : Int) / 256, (C : Int) % 256] = K := ⟨_, rfl⟩
  have hks : K.size = 2 := by rw [← hK, son_size]; rfl
  rw [hK] at hD
  have a1 := fun V => add_at H (str [0, 0]) (by rw [str_size]; simp; omega) V
  have a2 := fun V => add_at (H ++ str [0, 0]) f (by rw [ByteArray.size_append, str_size]; simp; omega) V
  have a3 := fun V => add_at (H ++ str [0, 0] ++ f) t (by rw [ByteArray.size_append, ByteArray.size_append, str_size]; simp; omega) V
  have b1 := fun V => add_at H K (by omega) V
  have b2 := fun V => add_at (H ++ K) f (by rw [ByteArray.size_append]; omega) V
  have b3 := fun V => add_at (H ++ K ++ f) t (by rw [ByteArray.size_append, ByteArray.size_append]; omega) V
  have b4 := fun V => add_at (H ++ K ++ f ++ t) b (by rw [ByteArray.size_append, ByteArray.size_append, ByteArray.size_append]; omega) V
  rw [← hD] at b4
  rw [show str [0, 0] = (⟨#[0, 0]⟩ : ByteArray) from rfl] at a1 a2 a3 ks
  have t1 : decide (p < 0) = false := by simp; omega
  have t2 : decide (255 < p) = false := by simp; omega
  have t3 : decide (4080 < 20 + (b.size : Int)) = false := by simp; omega
  have hnb : (b.size : Int) ≤ 4060 := by omega
  have HNN := Lib.hid hN
  have HKK := Lib.hid hK
  have hC2 : (C : Int) ≤ 65535 := by omega
  have HCL := Lib.hid hcle
  clear hN hK hC hH hD hcle hsz hks hf ht hb
  go_enter Try.func35, Try.ntmps35
  go_wp2_with fail
  have k1 := HT.out _ _ (ints_blk (Blk.new w 3 #[.int .i64 69, .int .i64 0, .int .i64 ((20 + (b.size : Int)) / 256), .int .i64 ((20 + (b.size : Int)) % 256), .int .i64 0, .int .i64 0, .int .i64 0, .int .i64 0, .int .i64 64, .int .i64 p]) (by rw [HNN.out]; rfl))
  (with_reducible refine (k1).mono ?_); rintro e1 W1 ⟨rfl, hb1⟩
  have hE1 := ((Below.refl w.heap.size w).alloc (Nat.le_refl _) (.cells #[.int .i64 69, .int .i64 0, .int .i64 ((20 + (b.size : Int)) / 256), .int .i64 ((20 + (b.size : Int)) % 256), .int .i64 0, .int .i64 0, .int .i64 0, .int .i64 0, .int .i64 64, .int .i64 p] 3)).trans (hb1.mono (by simp))
  clear k1 HT hb1
  go_wp2_with fail
  (with_reducible refine (ks _).mono ?_); rintro e1 W2 ⟨rfl, rfl⟩
  clear ks a1 a2 a3
  go_wp2_with fail
  have k2 := HT2.out _ _ C HCL.out (ints_blk (Blk.new W1 3 #[.int .i64 ((C : Int) / 256), .int .i64 ((C : Int) % 256)]) rfl)
  rw [HKK.out] at k2
  (with_reducible refine (k2).mono ?_); rintro e1 W3 ⟨rfl, hb3⟩
  have hE3 := (hE1.alloc hE1.size (.cells #[.int .i64 ((C : Int) / 256), .int .i64 ((C : Int) % 256)] 3)).trans (hb3.mono (by simp; have := hE1.size; omega))
  clear k2 HT2 hb3 hE1
  go_wp2_with fail
  go_ret2
  exact ⟨rfl, hE3⟩
theorem mk_long (f t b : ByteArray) (p : Int) (w : World) (hp : 0 ≤ p ∧ p ≤ 255) (hb : 4060 < b.size) (hs : b.size ≤ 1099511627776) : Calls Try.prog 35 #[.string f, .string t, .int .i64 p, .string b] w fun e w' => e = .returned (.tuple #[.string nob, .int .i64 15]) ∧ w = w' := by
  obtain ⟨hp1, hp2⟩ := hp
  have t1 : decide (p < 0) = false := by simp; omega
  have t2 : decide (255 < p) = false := by simp; omega
  have t3 : decide (4080 < 20 + (b.size : Int)) = true := by simp; omega
  have hnb : (b.size : Int) ≤ 1099511627776 := by omega
  go_enter Try.func35, Try.ntmps35
  go_wp2_with fail
  go_ret2
  exact ⟨rfl, rfl⟩
end Go.Proofs.Ytfadhgbhdoddpaa.DgM
