/- LinkUndo: the plain law; the walk. -/
import Derived.Test.YtnoioklkpeoopaaLkAw
namespace Go.Proofs.Ytnoioklkpeoopaa.LkUndo
open Go.RowKit Go.Proofs.Ytnoioklkpeoopaa.Q Go.Proofs.Ytnoioklkpeoopaa.Mem Go.Proofs.Ytnoioklkpeoopaa.PkCut Go.Proofs.Ytnoioklkpeoopaa.LkHarm Go.Proofs.Ytnoioklkpeoopaa.LkPass Go.Proofs.Ytnoioklkpeoopaa.LkRef Go.Proofs.Ytnoioklkpeoopaa.LkRef2 Go.Proofs.Ytnoioklkpeoopaa.LkRef3 Go.Proofs.Ytnoioklkpeoopaa.LkAw

section
variable {A : List ByteArray} {h x : H}
theorem ext_in {A B : List ByteArray} (hl : A.length = B.length) (h : ∀ k, k < B.length → A[k]? = B[k]?) : A = B := by
  apply List.ext_getElem?
  intro k
  by_cases hk : k < B.length
  · exact h k hk
  · rw [List.getElem?_eq_none (by omega), List.getElem?_eq_none (by omega)]
theorem swap_twice (hd : h.d = 4) : harm1 (harm1 A h) h = A := by
  have hl := harm1_length A h
  refine ext_in ((harm1_length _ _).trans hl) fun k hk => ?_
  rw [el4 hd (by omega), hl]
  by_cases c1 : 0 ≤ h.s ∧ (k : Int) = h.s ∧ k + 1 < A.length
  · rw [if_pos c1, el4 hd (by omega), if_neg (by omega), if_pos (by omega)]
    rfl
  · rw [if_neg c1]
    by_cases c2 : 0 ≤ h.s ∧ (k : Int) - 1 = h.s
    · rw [if_pos c2, el4 hd (by omega), if_pos (by omega), show k - 1 + 1 = k by omega]
    · rw [if_neg c2, el4 hd (by omega), if_neg c1, if_neg c2]
theorem turn_turn (y : ByteArray) (i : Nat) (b : Int) (hi : i < y.size) : turnB (turnB y i b) i b = y := by
  apply ByteArray.ext
  apply Array.ext_getElem?
  intro j
  rw [turnB_get _ _ _ (by rw [turnB_size]; exact hi)]
  have hi' : i < y.data.size := hi
  by_cases e : j = i
  · subst e
    rw [if_pos rfl, turnB_get _ _ _ hi, if_pos rfl, Array.getElem?_eq_getElem hi']
    simp [UInt8.xor_assoc]
  · rw [if_neg e, turnB_get _ _ _ hi, if_neg e]
theorem turn_twice (hd : h.d = 2) : harm1 (harm1 A h) h = A := by
  have hl := harm1_length A h
  refine ext_in ((harm1_length _ _).trans hl) fun k hk => ?_
  rw [el2 hd (by omega), el2 hd hk]
  by_cases c : (k : Int) = h.s ∧ 0 ≤ h.a ∧ h.a < (A[k]?.getD ByteArray.empty).size
  · rw [if_pos c]
    simp only [Option.getD_some]
    rw [if_pos (by rw [turnB_size]; exact c), turn_turn _ _ _ (by omega), List.getElem?_eq_getElem hk]
    rfl
  · rw [if_neg c, if_neg c]
theorem lose_twice (hd : x.d = 1) : harm1 (harm1 A x) x = harm1 A x := by
  have hl := harm1_length A x
  refine ext_in (harm1_length _ _) fun k hk => ?_
  rw [el1 hd hk]
  split
  · rename_i e
    rw [el1 hd (by omega), if_pos e]
  · rfl
theorem lose_turn (hd : x.d = 1) (hd2 : h.d = 2) (hs : h.s = x.s) : harm1 (harm1 A x) h = harm1 A x := by
  have hl := harm1_length A x
  refine ext_in (harm1_length _ _) fun k hk => ?_
  rw [el2 hd2 hk]
  split
  · rename_i e
    obtain ⟨e1, e2, e3⟩ := e
    rw [el1 hd (by omega), if_pos (by omega)] at e3
    have : (ByteArray.empty).size = 0 := rfl
    simp at e3
    omega
  · rfl
end
theorem pass_cons {h : H} {l : List H} {A : List ByteArray} (h1 : 1 ≤ h.d) (h2 : h.d ≤ 4) : LkPass.pass (h :: l) A = LkPass.pass l (harm1 A h) := if_pos ⟨h1, h2⟩
theorem p_swap (A : List ByteArray) (z : Int) : LkPass.pass [⟨4, z, 0, 0⟩, ⟨4, z, 0, 0⟩] A = some A := by
  rw [pass_cons (h := ⟨4, z, 0, 0⟩) (show (1 : Int) ≤ 4 by decide) (show (4 : Int) ≤ 4 by decide), pass_cons (h := ⟨4, z, 0, 0⟩) (show (1 : Int) ≤ 4 by decide) (show (4 : Int) ≤ 4 by decide), swap_twice rfl]
  rfl
theorem p_turn (A : List ByteArray) (z a b : Int) : LkPass.pass [⟨2, z, a, b⟩, ⟨2, z, a, b⟩] A = some A := by
  rw [pass_cons (h := ⟨2, z, a, b⟩) (show (1 : Int) ≤ 2 by decide) (show (2 : Int) ≤ 4 by decide), pass_cons (h := ⟨2, z, a, b⟩) (show (1 : Int) ≤ 2 by decide) (show (2 : Int) ≤ 4 by decide), turn_twice rfl]
  rfl
theorem p_lose (A : List ByteArray) (z : Int) : LkPass.pass [⟨1, z, 0, 0⟩] A = some (harm1 A ⟨1, z, 0, 0⟩) := by
  rw [pass_cons (h := ⟨1, z, 0, 0⟩) (show (1 : Int) ≤ 1 by decide) (show (1 : Int) ≤ 4 by decide)]
  rfl
theorem p_more (A : List ByteArray) (z a b : Int) : LkPass.pass [⟨1, z, 0, 0⟩, ⟨1, z, 0, 0⟩, ⟨2, z, a, b⟩] A = some (harm1 A ⟨1, z, 0, 0⟩) := by
  rw [pass_cons (h := ⟨1, z, 0, 0⟩) (show (1 : Int) ≤ 1 by decide) (show (1 : Int) ≤ 4 by decide), pass_cons (h := ⟨1, z, 0, 0⟩) (show (1 : Int) ≤ 1 by decide) (show (1 : Int) ≤ 4 by decide), pass_cons (h := ⟨2, z, a, b⟩) (show (1 : Int) ≤ 2 by decide) (show (2 : Int) ≤ 4 by decide), lose_twice rfl, lose_turn (x := ⟨1, z, 0, 0⟩) (h := ⟨2, z, a, b⟩) rfl rfl rfl]
  rfl

theorem harms_lit (V : World) (L : List H) (cs : Array Value) (hc : cs = (flat L).toArray)
    (hb : ∀ x ∈ L, (-9223372036854775808 ≤ x.d ∧ x.d ≤ 9223372036854775807) ∧ (-9223372036854775808 ≤ x.s ∧ x.s ≤ 9223372036854775807) ∧ (-9223372036854775808 ≤ x.a ∧ x.a ≤ 9223372036854775807) ∧ (0 ≤ x.b ∧ x.b < 256)) :
    Harms (V.alloc (.cells cs 36)) (some ⟨V.heap.size, 0, none⟩) L := fun i x hi => by
  subst hc
  have q : Blk (V.alloc (.cells (flat L).toArray 36)) V.heap.size 36 (flat L).toArray := Blk.new V _ _
  have hm := hb x (List.mem_of_getElem? hi)
  have g := fun c hc => flat_get hi c hc
  refine ⟨_, 0, rfl, Blk.lt q, ?_, ?_, ?_, ?_, hm⟩
  · rw [Nat.zero_add]; exact Blk.cell q (i * 4) (by rw [List.getElem?_toArray]; exact g 0 (by omega))
  · rw [Nat.zero_add]; exact Blk.cell q (i * 4 + 1) (by rw [List.getElem?_toArray]; exact g 1 (by omega))
  · rw [Nat.zero_add]; exact Blk.cell q (i * 4 + 2) (by rw [List.getElem?_toArray]; exact g 2 (by omega))
  · rw [Nat.zero_add]; exact Blk.cell q (i * 4 + 3) (by rw [List.getElem?_toArray]; exact g 3 (by omega))

theorem pass_to (s : ByteArray) (la : Option Addr) (m lc n : Nat) (L : List H) (hLm : L.length = m) (V : World) (A : List ByteArray) (hs : s.size ≤ 5000) (hL : L.length ≤ 30) (hm : s.size % 188 = 0) (hH : Harms V la L) (hp : LkPass.pass L (cutP s) = some A) (hn : A.length = n) :
    Calls Try.prog 6 #[.string s, .slice la m lc] V fun e W => ∃ a c, e = .returned (.tuple #[.slice a n c, .int .i64 0]) ∧ Strs W a A ∧ Below V.heap.size V W := by
  have kp := pass_any s la lc L V (by omega) (by omega) hm hH
  rw [hp, hLm] at kp
  refine kp.mono fun e W h => ?_
  obtain ⟨⟨a, c, he, hown⟩, hb⟩ := h
  subst hn
  exact ⟨a, c, he, strs_own hown, hb⟩

theorem cat_pk (s : ByteArray) (k p : Nat) (hp : p = 188 * k) : s.extract 0 p ++ pk s k = s.extract 0 (p + 188) := by
  unfold pk
  rw [← hp]
  rw [ByteArray.extract_append_extract]
  congr 1
  omega

/-- the five lists -/
structure Five (V : World) (a0 a1 a2 a3 a4 : Option Addr) (A C : List ByteArray) : Prop where
  s0 : Strs V a0 A
  s1 : Strs V a1 A
  s2 : Strs V a2 A
  s3 : Strs V a3 C
  s4 : Strs V a4 C
theorem Five.below {V V' : World} {a0 a1 a2 a3 a4 : Option Addr} {A C : List ByteArray} (h : Five V a0 a1 a2 a3 a4 A C) (hb : Below V.heap.size V V') : Five V' a0 a1 a2 a3 a4 A C :=
  ⟨h.s0.below (Nat.le_refl _) hb, h.s1.below (Nat.le_refl _) hb, h.s2.below (Nat.le_refl _) hb, h.s3.below (Nat.le_refl _) hb, h.s4.below (Nat.le_refl _) hb⟩

theorem two_new (V : World) (o o' : Obj) : Below V.heap.size V ((V.alloc o).alloc o') := (alloc_new V o).trans ((alloc_new (V.alloc o) o').mono (by simp))
set_option maxRecDepth 100000 in
theorem undo_no (s : ByteArray) (z y0 y1 : Int) (w : World) (h : ¬ (s.size ≤ 5000 ∧ s.size % 188 = 0)) :
        Calls Try.prog 4 #[.string s, .int .i64 z, .agg #[.int .i64 y0, .int .i64 y1]] w fun e w' => e = .returned (.bool true) ∧ Below w.heap.size w w' := by
  by_cases hs : 5000 < s.size
  · have t0 : decide (5000 < (s.size : Int)) = true := by simp; omega
    clear h hs
    go_enter Try.func4, Try.ntmps4
    go_wp2_with fail
    (with_reducible refine (awake_any _).mono ?_); rintro e w1 ⟨rfl, hb⟩
    go_wp2
    go_ret
    exact ⟨rfl, (alloc_new w _).trans (hb.mono (by simp))⟩
  · have t0 : decide (5000 < (s.size : Int)) = false := by simp; omega
    have t1 : ((s.size : Int) % 188 != 0) = true := by simp; omega
    clear h hs
    go_enter Try.func4, Try.ntmps4
    go_wp2_with fail
    (with_reducible refine (awake_any _).mono ?_); rintro e w1 ⟨rfl, hb⟩
    go_wp2
    go_ret
    exact ⟨rfl, (alloc_new w _).trans (hb.mono (by simp))⟩

set_option maxRecDepth 100000 in
set_option maxHeartbeats 4000000 in
theorem undo_yes (s : ByteArray) (z y0 y1 : Int) (w : World) (hz : -9223372036854775808 ≤ z ∧ z ≤ 9223372036854775807) (h0 : -9223372036854775808 ≤ y0 ∧ y0 ≤ 9223372036854775807) (hs : s.size ≤ 5000) (hm : s.size % 188 = 0) :
        Calls Try.prog 4 #[.string s, .int .i64 z, .agg #[.int .i64 y0, .int .i64 y1]] w fun e w' => e = .returned (.bool true) ∧ Below w.heap.size w w' := by
  have t0 : decide (5000 < (s.size : Int)) = false := by simp; omega
  have t1 : ((s.size : Int) % 188 != 0) = false := by simp; omega
  obtain ⟨n, hn⟩ : ∃ n, (cutP s).length = n := ⟨_, rfl⟩
  have hnn : n = s.size / 188 := by rw [← hn]; simp [cutP, pks]
  have hCn : (harm1 (cutP s) ⟨1, z, 0, 0⟩).length = n := (harm1_length _ _).trans hn
  have hz0 : (-9223372036854775808 : Int) ≤ 0 ∧ (0 : Int) ≤ 9223372036854775807 := by omega
  have hz1 : (0 : Int) ≤ 0 ∧ (0 : Int) < 256 := by omega
  have hz4 : ∀ d : Int, 1 ≤ d → d ≤ 4 → (-9223372036854775808 : Int) ≤ d ∧ d ≤ 9223372036854775807 := fun d _ _ => by omega
  obtain ⟨b1, hb1⟩ : ∃ b, IntKind.u8.wrap y1 = b := ⟨_, rfl⟩
  have hbb : 0 ≤ b1 ∧ b1 < 256 := by rw [← hb1, IntKind.wrap_u8]; omega
  have k1 := fun V => pass_to s none 0 0 n [] rfl V (cutP s) hs (by simp) hm (fun i x hi => by simp at hi) rfl hn
  have k2 := fun V hH => pass_to s (some ⟨(V : World).heap.size, 0, none⟩) 2 2 n [⟨4, z, 0, 0⟩, ⟨4, z, 0, 0⟩] rfl (V.alloc (.cells #[.int .i64 4, .int .i64 z, .int .i64 0, .int .u8 0, .int .i64 4, .int .i64 z, .int .i64 0, .int .u8 0] 36)) (cutP s) hs (by simp) hm hH (p_swap _ z) hn
  have m2 := fun V => harms_lit V [⟨4, z, 0, 0⟩, ⟨4, z, 0, 0⟩] #[.int .i64 4, .int .i64 z, .int .i64 0, .int .u8 0, .int .i64 4, .int .i64 z, .int .i64 0, .int .u8 0] rfl (fun x hx => by simp at hx; subst hx; exact ⟨hz4 4 (by omega) (by omega), hz, hz0, hz1⟩)
  have k3 := fun V hH => pass_to s (some ⟨(V : World).heap.size, 0, none⟩) 2 2 n [⟨2, z, y0, b1⟩, ⟨2, z, y0, b1⟩] rfl (V.alloc (.cells #[.int .i64 2, .int .i64 z, .int .i64 y0, .int .u8 b1, .int .i64 2, .int .i64 z, .int .i64 y0, .int .u8 b1] 36)) (cutP s) hs (by simp) hm hH (p_turn _ z y0 b1) hn
  have m3 := fun V => harms_lit V [⟨2, z, y0, b1⟩, ⟨2, z, y0, b1⟩] #[.int .i64 2, .int .i64 z, .int .i64 y0, .int .u8 b1, .int .i64 2, .int .i64 z, .int .i64 y0, .int .u8 b1] rfl (fun x hx => by simp at hx; subst hx; exact ⟨hz4 2 (by omega) (by omega), hz, h0, hbb⟩)
  have k4 := fun V hH => pass_to s (some ⟨(V : World).heap.size, 0, none⟩) 1 1 n [⟨1, z, 0, 0⟩] rfl (V.alloc (.cells #[.int .i64 1, .int .i64 z, .int .i64 0, .int .u8 0] 36)) _ hs (by simp) hm hH (p_lose _ z) hCn
  have m4 := fun V => harms_lit V [⟨1, z, 0, 0⟩] #[.int .i64 1, .int .i64 z, .int .i64 0, .int .u8 0] rfl (fun x hx => by simp at hx; subst hx; exact ⟨hz4 1 (by omega) (by omega), hz, hz0, hz1⟩)
  have k5 := fun V hH => pass_to s (some ⟨(V : World).heap.size, 0, none⟩) 3 3 n [⟨1, z, 0, 0⟩, ⟨1, z, 0, 0⟩, ⟨2, z, y0, b1⟩] rfl (V.alloc (.cells #[.int .i64 1, .int .i64 z, .int .i64 0, .int .u8 0, .int .i64 1, .int .i64 z, .int .i64 0, .int .u8 0, .int .i64 2, .int .i64 z, .int .i64 y0, .int .u8 b1] 36)) _ hs (by simp) hm hH (p_more _ z y0 b1) hCn
  have m5 := fun V => harms_lit V [⟨1, z, 0, 0⟩, ⟨1, z, 0, 0⟩, ⟨2, z, y0, b1⟩] #[.int .i64 1, .int .i64 z, .int .i64 0, .int .u8 0, .int .i64 1, .int .i64 z, .int .i64 0, .int .u8 0, .int .i64 2, .int .i64 z, .int .i64 y0, .int .u8 b1] rfl (fun x hx => by simp at hx; rcases hx with rfl | rfl; exact ⟨hz4 1 (by omega) (by omega), hz, hz0, hz1⟩; exact ⟨hz4 2 (by omega) (by omega), hz, h0, hbb⟩)
  have HN := Lib.hid hn
  have HNN := Lib.hid hnn
  have HB1 := Lib.hid hb1
  have HM := Lib.hid hm
  have hn30 : n ≤ 30 := by omega
  clear hn hnn hCn hm hz0 hz1 hz4
  go_enter Try.func4, Try.ntmps4
  go_wp2_with fail
  (with_reducible refine (k1 _).mono ?_); rintro e W1 ⟨a0, c0, rfl, s0, be⟩
  clear k1
  have hbe1 := (alloc_new w _).trans (be.mono (by simp))
  have hbox : Blk W1 w.heap.size 34 #[.int .i64 y0, .int .i64 y1] := Blk.below (Blk.new w _ _) be (by simp)
  clear be
  go_wp2_with fail
  (with_reducible refine (k2 W1 (m2 W1)).mono ?_); rintro e W2 ⟨a1, c1, rfl, s1, be⟩
  clear k2 m2
  have bb := (alloc_new W1 _).trans (be.mono (by simp))
  have u0 := s0.below (Nat.le_refl _) bb
  have hbox2 := Blk.below hbox bb (Blk.lt hbox)
  have hbe2 := hbe1.trans (bb.mono hbe1.size)
  clear s0 hbox hbe1 be bb
  have x0 := Blk.cell hbox2 0 (v := .int .i64 y0) rfl
  have x1 := Blk.cell hbox2 1 (v := .int .i64 y1) rfl
  go_wp2_with fail
  have kk := k3 _ (m3 (W2.alloc (.cells #[.int .i64 2, .int .i64 z, .int .i64 y0, .int .u8 b1] 36)))
  simp only [World.size_alloc] at kk
  have q11 : Blk ((W2.alloc (.cells #[.int .i64 2, .int .i64 z, .int .i64 y0, .int .u8 b1] 36)).alloc (.cells #[.int .i64 2, .int .i64 z, .int .i64 y0, .int .u8 b1, .int .i64 2, .int .i64 z, .int .i64 y0, .int .u8 b1] 36)) W2.heap.size 36 #[.int .i64 2, .int .i64 z, .int .i64 y0, .int .u8 b1] := Blk.alloc (Blk.new W2 _ _) _
  (with_reducible refine (kk).mono ?_); rintro e W3 ⟨a2, c2, rfl, s2, be⟩
  clear k3 m3 kk hbox2 x0 x1
  have bb := (two_new W2 (.cells #[.int .i64 2, .int .i64 z, .int .i64 y0, .int .u8 b1] 36) (.cells #[.int .i64 2, .int .i64 z, .int .i64 y0, .int .u8 b1, .int .i64 2, .int .i64 z, .int .i64 y0, .int .u8 b1] 36)).trans (be.mono (by omega))
  have v0 := u0.below (Nat.le_refl _) bb
  have v1 := s1.below (Nat.le_refl _) bb
  have r11 := Blk.below q11 be (by omega)
  have hbe3 := hbe2.trans (bb.mono hbe2.size)
  obtain ⟨B11, hB11⟩ : ∃ B, W2.heap.size = B := ⟨_, rfl⟩
  rw [hB11] at r11 ⊢
  clear u0 s1 q11 hbe2 be bb hB11
  go_wp2_with fail
  have kk := k4 _ (m4 (W3.alloc (.cells #[.int .i64 1, .int .i64 z, .int .i64 0, .int .u8 0] 36)))
  simp only [World.size_alloc] at kk
  have q14 : Blk ((W3.alloc (.cells #[.int .i64 1, .int .i64 z, .int .i64 0, .int .u8 0] 36)).alloc (.cells #[.int .i64 1, .int .i64 z, .int .i64 0, .int .u8 0] 36)) W3.heap.size 36 #[.int .i64 1, .int .i64 z, .int .i64 0, .int .u8 0] := Blk.alloc (Blk.new W3 _ _) _
  (with_reducible refine (kk).mono ?_); rintro e W4 ⟨a3, c3, rfl, s3, be⟩
  clear k4 m4 kk
  have bb := (two_new W3 (.cells #[.int .i64 1, .int .i64 z, .int .i64 0, .int .u8 0] 36) (.cells #[.int .i64 1, .int .i64 z, .int .i64 0, .int .u8 0] 36)).trans (be.mono (by omega))
  have t0 := v0.below (Nat.le_refl _) bb
  have t1 := v1.below (Nat.le_refl _) bb
  have t2 := s2.below (Nat.le_refl _) bb
  have r14 := Blk.below q14 be (by omega)
  have p11 := Blk.below r11 bb (Blk.lt r11)
  have hbe4 := hbe3.trans (bb.mono hbe3.size)
  obtain ⟨B14, hB14⟩ : ∃ B, W3.heap.size = B := ⟨_, rfl⟩
  rw [hB14] at r14 ⊢
  clear v0 v1 s2 q14 r11 hbe3 be bb hB14
  have d0 := Blk.cell r14 0 (v := .int .i64 1) rfl
  have d1 := Blk.cell r14 1 (v := .int .i64 z) rfl
  have d2 := Blk.cell r14 2 (v := .int .i64 0) rfl
  have d3 := Blk.cell r14 3 (v := .int .u8 0) rfl
  have e0 := Blk.cell p11 0 (v := .int .i64 2) rfl
  have e1 := Blk.cell p11 1 (v := .int .i64 z) rfl
  have e2 := Blk.cell p11 2 (v := .int .i64 y0) rfl
  have e3 := Blk.cell p11 3 (v := .int .u8 b1) rfl
  go_wp2_with fail
  (with_reducible refine (k5 W4 (m5 W4)).mono ?_); rintro e W5 ⟨a4, c4, rfl, s4, be⟩
  clear k5 m5 d0 d1 d2 d3 e0 e1 e2 e3 r14 p11
  have bb := (alloc_new W4 _).trans (be.mono (by simp))
  have hF : Five W5 a0 a1 a2 a3 a4 (cutP s) (harm1 (cutP s) ⟨1, z, 0, 0⟩) := ⟨t0.below (Nat.le_refl _) bb, t1.below (Nat.le_refl _) bb, t2.below (Nat.le_refl _) bb, s3.below (Nat.le_refl _) bb, s4⟩
  have hbe := hbe4.trans (bb.mono hbe4.size)
  clear t0 t1 t2 s3 s4 hbe4 be bb
  have HF := Lib.hid hF
  clear hF
  go_wp2_with fail
  go_loopw [19, 20] (fun al i wr => ∃ (k p : Nat) (t : ByteArray), Hid (p = 188 * k ∧ t = s.extract 0 p ∧ Five wr a0 a1 a2 a3 a4 (cutP s) (harm1 (cutP s) ⟨1, z, 0, 0⟩)) ∧ t.size ≤ 5000 ∧ k ≤ n ∧ al = .string t ∧ i = .int .i64 k ∧ Below w.heap.size w wr) (fun _ i _ => n - (intOf i).toNat)
  case atStart => exact ⟨0, 0, ByteArray.empty, Lib.hid ⟨rfl, by apply ByteArray.ext; rw [ByteArray.data_extract]; simp, HF.out⟩, by simp, by omega, rfl, rfl, hbe⟩
  case round =>
    clear hbe HF
    obtain ⟨k, p, t, hI, ht, hk, rfl, rfl, hbe⟩ := hrel
    by_cases hkl : k < n
    · have u0 : decide (k < n) = true := by simpa using hkl
      have hx : (cutP s)[k]? = some (pk s k) := by unfold cutP; rw [← HNN.out]; simp [pks, hkl]
      obtain ⟨x, hxx⟩ : ∃ x, pk s k = x := ⟨_, rfl⟩
      have hxs : x.size ≤ 188 := by rw [← hxx]; have := ByteArray.size_extract (a := s) (b := 188 * k) (e := 188 * k + 188); unfold pk; omega
      have hc := el1 (A := cutP s) (h := ⟨1, z, 0, 0⟩) (k := k) rfl (by rw [HN.out]; exact hkl)
      rw [hx, hxx] at hc
      rw [hxx] at hx
      obtain ⟨g0, o0, rfl, l0, y0⟩ := hI.out.2.2.s0 k x hx
      have HXX := Lib.hid hxx
      have hadd : ∀ V : World, (Op.stringOp .add t x).run Try.prog V = .ok (.string (t ++ x)) V := fun V => run_string_add_sum V _ _ (by omega)
      have hnew : p + 188 = 188 * (k + 1) ∧ t ++ x = s.extract 0 (p + 188) := ⟨by have := hI.out.1; omega, by rw [hI.out.2.1, ← hxx]; exact cat_pk s k p hI.out.1⟩
      have htx : (t ++ x).size ≤ 5000 := by rw [hnew.2]; have := ByteArray.size_extract (a := s) (b := 0) (e := p + 188); omega
      have HNW := Lib.hid hnew
      clear hx hxx hnew
      have z0 := fun q => cell_ext l0 y0 q
      by_cases hks : (k : Int) = z
      · have u1 : ((k : Int) == z) = true := by simpa using hks
        have u2 : ((k : Int) != z) = false := by simpa using hks
        rw [if_pos (show (k : Int) = (⟨1, z, 0, 0⟩ : H).s from hks)] at hc
        obtain ⟨g3, o3, rfl, l3, y3⟩ := hI.out.2.2.s3 k _ hc
        have z3 := fun q => cell_ext l3 y3 q
        clear hc hks
        go_wp2_with fail
        refine Go.Proofs.Ytnoioklkpeoopaa.Q.region_ext (by kernel_rfl) (by kernel_rfl) ?_
        repeat (go_big_quiet_step (fail))
        refine wpQuiet_nil ?_
        rintro w9 ⟨pq, rfl⟩
        have HF2 := Lib.hid (show p + 188 = 188 * (k + 1) ∧ t ++ x = s.extract 0 (p + 188) ∧ _ from ⟨HNW.out.1, HNW.out.2, hI.out.2.2.below (below_ext wr pq)⟩)
        have hb2 := hbe.trans ((below_ext wr pq).mono hbe.size)
        clear z0 z3 y0 y3 hI hbe hadd
        go_wp2_with fail
        go_roundw
        case rel => exact ⟨k + 1, p + 188, t ++ x, HF2, htx, by omega, rfl, by go_num, hb2⟩
        case measure => simp [intOf]; omega
      · have u1 : ((k : Int) == z) = false := by simpa using hks
        have u2 : ((k : Int) != z) = true := by simpa using hks
        rw [if_neg (show ¬ (k : Int) = (⟨1, z, 0, 0⟩ : H).s from hks)] at hc
        obtain ⟨g3, o3, rfl, l3, y3⟩ := hI.out.2.2.s3 k _ hc
        have z3 := fun q => cell_ext l3 y3 q
        clear hc hks
        go_wp2_with fail
        refine Go.Proofs.Ytnoioklkpeoopaa.Q.region_ext (by kernel_rfl) (by kernel_rfl) ?_
        repeat (go_big_quiet_step (fail))
        refine wpQuiet_nil ?_
        rintro w9 ⟨pq, rfl⟩
        have HF2 := Lib.hid (show p + 188 = 188 * (k + 1) ∧ t ++ x = s.extract 0 (p + 188) ∧ _ from ⟨HNW.out.1, HNW.out.2, hI.out.2.2.below (below_ext wr pq)⟩)
        have hb2 := hbe.trans ((below_ext wr pq).mono hbe.size)
        clear z0 z3 y0 y3 hI hbe hadd
        go_wp2_with fail
        go_roundw
        case rel => exact ⟨k + 1, p + 188, t ++ x, HF2, htx, by omega, rfl, by go_num, hb2⟩
        case measure => simp [intOf]; omega
    · obtain rfl : k = n := by omega
      have u0 : decide (k < k) = false := by simp
      have hts : t = s := by
        rw [hI.out.2.1, hI.out.1]
        have := HNN.out
        have := HM.out
        rw [show 188 * k = s.size by omega]
        exact ByteArray.extract_zero_size
      rw [hts]
      have hPl := HN.out
      have kt := fun a b c d V hA hB => texts_same a b c d (cutP s) V (by rw [HN.out]; omega) hA hB
      have hCl : (harm1 (cutP s) ⟨1, z, 0, 0⟩).length = k := (harm1_length _ _).trans HN.out
      have kt2 := fun a b c d V hA hB => texts_same a b c d (harm1 (cutP s) ⟨1, z, 0, 0⟩) V (by rw [hCl]; omega) hA hB
      rw [HN.out] at kt
      rw [hCl] at kt2
      have HF := Lib.hid hI.out.2.2
      clear hI ht hts hPl hCl hkl
      go_wp2_with fail
      (with_reducible refine (kt _ _ _ _ _ HF.out.s1 HF.out.s0).mono ?_); rintro e W6 ⟨rfl, b6⟩
      have HF6 := Lib.hid (HF.out.below b6)
      have f6 := hbe.trans (b6.mono hbe.size)
      clear HF b6 hbe
      go_wp2_with fail
      (with_reducible refine (kt _ _ _ _ _ HF6.out.s2 HF6.out.s0).mono ?_); rintro e W7 ⟨rfl, b7⟩
      have HF7 := Lib.hid (HF6.out.below b7)
      have f7 := f6.trans (b7.mono f6.size)
      clear HF6 b7 f6 kt
      go_wp2_with fail
      (with_reducible refine (kt2 _ _ _ _ _ HF7.out.s3 HF7.out.s4).mono ?_); rintro e W8 ⟨rfl, b8⟩
      have f8 := f7.trans (b8.mono f7.size)
      clear HF7 b8 f7 kt2
      go_wp2_with fail
      (with_reducible refine (awake_any _).mono ?_); rintro e W9 ⟨rfl, b9⟩
      go_wp2
      go_ret
      exact ⟨rfl, f8.trans (b9.mono f8.size)⟩

theorem undo_any (s : ByteArray) (z y0 y1 : Int) (w : World) (hz : -9223372036854775808 ≤ z ∧ z ≤ 9223372036854775807) (h0 : -9223372036854775808 ≤ y0 ∧ y0 ≤ 9223372036854775807) :
        Calls Try.prog 4 #[.string s, .int .i64 z, .agg #[.int .i64 y0, .int .i64 y1]] w fun e w' => e = .returned (.bool true) ∧ Below w.heap.size w w' := by
  by_cases h : s.size ≤ 5000 ∧ s.size % 188 = 0
  · exact undo_yes s z y0 y1 w hz h0 h.1 h.2
  · exact undo_no s z y0 y1 w h
end Go.Proofs.Ytnoioklkpeoopaa.LkUndo
