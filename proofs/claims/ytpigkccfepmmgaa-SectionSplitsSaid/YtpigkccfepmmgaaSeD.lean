/- The document's Bytes of a section. -/
import Derived.Test.YtpigkccfepmmgaaSeC
import Derived.Test.YtpigkccfepmmgaaCrD
namespace Go.Proofs.Ytpigkccfepmmgaa.SeD
open Go Go.RowKit Go.Proofs.Ytpigkccfepmmgaa.Q Go.Proofs.Ytpigkccfepmmgaa.Mem Go.Proofs.Ytpigkccfepmmgaa.Rg Go.Proofs.Ytpigkccfepmmgaa.Ap Go.Proofs.Ytpigkccfepmmgaa.St Go.Proofs.Ytpigkccfepmmgaa.BiP Go.Proofs.Ytpigkccfepmmgaa.CrC Go.Proofs.Ytpigkccfepmmgaa.CrD Go.Proofs.Ytpigkccfepmmgaa.SeA Go.Proofs.Ytpigkccfepmmgaa.SeC

set_option maxRecDepth 100000
set_option maxHeartbeats 1600000 in
theorem rbytes_any (s : Sc) (w : World) (h : s.ok) (hb : ¬ 4084 < s.body.size) : Calls Try.prog 15 #[.agg s.vals] w fun e w' => e = .returned (.string (bytesS s)) ∧ Below w.heap.size w w' := by
  have hX : bytesS s = str (sealL (bl (str (frontL s) ++ s.body))) := by rw [bl_app, bl_str]; rfl
  have hF : frontL s = [UInt8.ofNat s.table.toNat, UInt8.ofNat (176 + 64 * nb s.priv + (s.body.size + 9) / 256), UInt8.ofNat ((s.body.size + 9) % 256), UInt8.ofNat (s.ext.toNat / 256), UInt8.ofNat (s.ext.toNat % 256), UInt8.ofNat (192 + 2 * s.version.toNat + nb s.now), UInt8.ofNat s.number.toNat, UInt8.ofNat s.last.toNat] := rfl
  have hB0 := bk1 w 28 s.vals
  obtain ⟨⟨a1, a2⟩, ⟨b1, b2⟩, ⟨c1, c2⟩, ⟨d1, d2⟩, f1, f2⟩ := h
  obtain ⟨S, hS⟩ : ∃ S, bytesS s = S := ⟨_, rfl⟩
  rw [hS] at hX ⊢
  obtain ⟨FR, hFR⟩ : ∃ FR, frontL s = FR := ⟨_, rfl⟩
  rw [hFR] at hF hX
  clear hS hFR
  obtain ⟨t, p, e, v, n, m, l, b⟩ := s
  unfold Sc.vals at hB0 ⊢
  dsimp only at *
  have hc : strOfNums [t, 176 + (if p = true then 64 else 0) + ((b.size : Int) + 9) / 256, ((b.size : Int) + 9) % 256, e / 256, e % 256, 192 + 2 * v + (if n = true then 1 else 0), m, l] = str FR := by
    rw [nums_str, hF]
    congr 1
    simp only [List.map_cons, List.map_nil]
    have p1 : (176 + (if p = true then (64 : Int) else 0) + ((b.size : Int) + 9) / 256).toNat = 176 + 64 * nb p + (b.size + 9) / 256 := by cases p <;> simp [nb] <;> omega
    have p2 : (192 + 2 * v + (if n = true then (1 : Int) else 0)).toNat = 192 + 2 * v.toNat + nb n := by cases n <;> simp [nb] <;> omega
    rw [p1, p2, show (((b.size : Int) + 9) % 256).toNat = (b.size + 9) % 256 by omega, show (e / 256).toNat = e.toNat / 256 by omega, show (e % 256).toNat = e.toNat % 256 by omega]
  obtain ⟨X, hXe⟩ : ∃ X, 176 + (if p = true then (64 : Int) else 0) + ((b.size : Int) + 9) / 256 = X := ⟨_, rfl⟩
  obtain ⟨Y, hYe⟩ : ∃ Y, 192 + 2 * v + (if n = true then (1 : Int) else 0) = Y := ⟨_, rfl⟩
  rw [hXe, hYe] at hc
  have HX := Lib.hid hX
  have HB := Lib.hid hB0
  have hlen : FR.length = 8 := by rw [hF]; rfl
  have hadd : ∀ U : World, (Op.stringOp .add (str FR) b).run Try.prog U = .ok (.string (str FR ++ b)) U := fun U => add_at _ _ (by rw [str_size, hlen]; omega) U
  have kl := fun V => rseal_any (str FR ++ b) V (by rw [ByteArray.size_append, str_size, hlen]; omega)
  rw [← HX.out] at kl
  have r1 : IntKind.u8.wrap t = t := by rw [IntKind.wrap_u8]; omega
  have r2 : IntKind.u8.wrap (((b.size : Int) + 9) % 256) = ((b.size : Int) + 9) % 256 := by rw [IntKind.wrap_u8]; omega
  have r3 : IntKind.u8.wrap (e / 256) = e / 256 := by rw [IntKind.wrap_u8]; omega
  have r4 : IntKind.u8.wrap (e % 256) = e % 256 := by rw [IntKind.wrap_u8]; omega
  have r5 : IntKind.u8.wrap m = m := by rw [IntKind.wrap_u8]; omega
  have r6 : IntKind.u8.wrap l = l := by rw [IntKind.wrap_u8]; omega
  have z1 : (b.size : Int) ≤ 4084 := by omega
  obtain ⟨Z, hZ⟩ : ∃ Z, str FR ++ b = Z := ⟨_, rfl⟩
  rw [hZ] at hadd kl
  clear hX hF hB0 hlen hZ hb
  have kc := conv_new (w.alloc (.cells #[.int .i64 t, .bool p, .int .i64 e, .int .i64 v, .bool n, .int .i64 m, .int .i64 l, .string b] 28)) [t, X, ((b.size : Int) + 9) % 256, e / 256, e % 256, Y, m, l] 8 (w.heap.size + 1) #[.int .u8 t, .int .u8 X, .int .u8 (((b.size : Int) + 9) % 256), .int .u8 (e / 256), .int .u8 (e % 256), .int .u8 Y, .int .u8 m, .int .u8 l] rfl rfl (by simp)
  rw [hc] at kc
  have s1 : IntKind.u8.wrap (176 + ((b.size : Int) + 9) / 256 + 64) = (if p = true then X else IntKind.u8.wrap (176 + ((b.size : Int) + 9) / 256 + 64)) := by
    cases p
    · rfl
    · simp at hXe; simp only [if_true]; rw [IntKind.wrap_u8]; omega
  have s2 : IntKind.u8.wrap (176 + ((b.size : Int) + 9) / 256) = (if p = true then IntKind.u8.wrap (176 + ((b.size : Int) + 9) / 256) else X) := by
    cases p
    · simp at hXe; simp only [if_false, Bool.false_eq_true]; rw [IntKind.wrap_u8]; omega
    · rfl
  have s3 : IntKind.u8.wrap (192 + 2 * v + 1) = (if n = true then Y else IntKind.u8.wrap (192 + 2 * v + 1)) := by
    cases n
    · rfl
    · simp at hYe; simp only [if_true]; rw [IntKind.wrap_u8]; omega
  have s4 : IntKind.u8.wrap (192 + 2 * v) = (if n = true then IntKind.u8.wrap (192 + 2 * v) else Y) := by
    cases n
    · simp at hYe; simp only [if_false, Bool.false_eq_true]; rw [IntKind.wrap_u8]; omega
    · rfl
  have HW := Lib.hid (bk2 w 28 5 #[.int .i64 t, .bool p, .int .i64 e, .int .i64 v, .bool n, .int .i64 m, .int .i64 l, .string b] #[.int .u8 t, .int .u8 X, .int .u8 (((b.size : Int) + 9) % 256), .int .u8 (e / 256), .int .u8 (e % 256), .int .u8 Y, .int .u8 m, .int .u8 l])
  clear hc hXe hYe HB
  have S1 := Lib.hid s1
  have S2 := Lib.hid s2
  have S3 := Lib.hid s3
  have S4 := Lib.hid s4
  clear s1 s2 s3 s4
  cases p <;> cases n
  all_goals
    have s1 := S1.out
    have s2 := S2.out
    have s3 := S3.out
    have s4 := S4.out
    simp only [Bool.false_eq_true, if_true, if_false] at s1 s2 s3 s4
    go_enter Try.func15, Try.ntmps15
    go_wp2_with fail
    (with_reducible refine (kl _).mono ?_); rintro e1 W1 ⟨rfl, hb1⟩
    have hE := (HW.out.below hb1).be
    go_wp2_with fail
    go_ret
    exact ⟨rfl, hE⟩
end Go.Proofs.Ytpigkccfepmmgaa.SeD
