/- descr: a Place as a descriptor. -/
import Derived.Test.YtbceakdifklocaaDsB
import Derived.Outline
namespace Go.Proofs.Ytbceakdifklocaa.DsC
open Go.RowKit Go.Proofs.Ytbceakdifklocaa.Q Go.Proofs.Ytbceakdifklocaa.Mem Go.Proofs.Ytbceakdifklocaa.DsA Go.Proofs.Ytbceakdifklocaa.DsB

/-- a slice of bytes laid anew reads as a string -/
theorem conv_new (V : World) (l : List Int) (n g : Nat) (cs : Array Value) (hn : l.length = n) (hc : cs = (l.map (Value.int .u8)).toArray) (hg : g = V.heap.size) :
    (convert 78 9 (.slice (some ⟨g, 0, none⟩) n n)).run Try.prog (V.alloc (.cells cs 5)) = .ok (.string (strOfNums l)) (V.alloc (.cells cs 5)) := by
  have q : Blk (V.alloc (.cells cs 5)) g 5 cs := Blk.newAt _ _ _ hg
  exact run_convert_bytes_arg (P := Try.prog) _ 78 5 Try.underlying78 Try.underlying5 g 0 n n l hn (fun j hj => by
    rw [Nat.zero_add]
    refine Blk.cell q j ?_
    rw [hc, List.getElem?_toArray, List.getElem?_map, List.getElem?_eq_getElem (show j < l.length by omega), List.getD_eq_getElem?_getD, List.getElem?_eq_getElem (show j < l.length by omega)]
    rfl) _ Try.underlying9

theorem two_any (n : Int) (w : World) (h : 0 ≤ n ∧ n ≤ 65535) : Calls Try.prog 40 #[.int .i64 n] w fun e w' => e = .returned (.string (strOfNums [n / 256, n % 256])) ∧ Below w.heap.size w w' := by
  have q1 : IntKind.u8.wrap (n / 256) = n / 256 := by rw [IntKind.wrap_u8]; omega
  have q2 : IntKind.u8.wrap n = n % 256 := by rw [IntKind.wrap_u8]
  have kc := conv_new w [n / 256, n % 256] 2 w.heap.size #[.int .u8 (n / 256), .int .u8 (n % 256)] rfl rfl rfl
  go_enter Try.func40, Try.ntmps40
  go_wp2
  go_ret
  exact ⟨rfl, (Below.refl _ _).alloc (Nat.le_refl _) _⟩

/-- a Place -/
structure Pl where
  n : Int
  o : Int
  s : Int
  v : Int
  t : Int
def Pl.vals (x : Pl) : Array Value := #[.int .i64 x.n, .int .i64 x.o, .int .i64 x.s, .int .i64 x.v, .int .i64 x.t]
def Pl.four (x : Pl) : List Int := [x.n, x.o, x.s, x.v]
def twos (l : List Int) : List Int := l.flatMap fun n => [n / 256, n % 256]
def Pl.body (x : Pl) : ByteArray := strOfNums (twos x.four ++ [x.t])
def Pl.makeE (x : Pl) : Int := if inB 65535 x.four && in1 255 x.t then 0 else 15

theorem within_at (most : Int) (a : Option Addr) (cap m : Nat) (L : List Int) (w : World) (hm : L.length = m) (hl : L.length ≤ 1099511627776) (hL : Ints w a L) :
    Calls Try.prog 38 #[.int .i64 most, .slice a m cap] w fun e w' => e = .returned (.bool (inB most L)) ∧ Below w.heap.size w w' := by
  have := within_any most a cap L w hl hL
  rwa [hm] at this

theorem son_append (a b : List Int) : strOfNums a ++ strOfNums b = strOfNums (a ++ b) := by
  unfold strOfNums
  rw [ByteArray.mk_append_mk, List.map_append]

theorem four_at (n o s v : Int) (k : Nat) (hk : k < 4) (h : (0 ≤ n ∧ n ≤ 65535) ∧ (0 ≤ o ∧ o ≤ 65535) ∧ (0 ≤ s ∧ s ≤ 65535) ∧ (0 ≤ v ∧ v ≤ 65535)) :
    ∃ y, [n, o, s, v][k]? = some y ∧ (∀ V : World, (Instr.index 99 (.agg #[.int .i64 n, .int .i64 o, .int .i64 s, .int .i64 v]) (.int .i64 (k : Int))).run Try.prog V = .ok (.int .i64 y) V) ∧ (0 ≤ y ∧ y ≤ 65535) := by
  rcases (show k = 0 ∨ k = 1 ∨ k = 2 ∨ k = 3 by omega) with rfl | rfl | rfl | rfl
  · exact ⟨n, rfl, fun _ => by kernel_rfl, h.1⟩
  · exact ⟨o, rfl, fun _ => by kernel_rfl, h.2.1⟩
  · exact ⟨s, rfl, fun _ => by kernel_rfl, h.2.2.1⟩
  · exact ⟨v, rfl, fun _ => by kernel_rfl, h.2.2.2⟩

/-- behind a call: the box, the array, the result -/
structure Px (w W : World) (x : Pl) : Prop where
  b : Blk W w.heap.size 26 x.vals
  d : Blk W (w.heap.size + 1) 30 #[.int .i64 0, .string nob]
  a : Blk W (w.heap.size + 1 + 1) 99 #[.int .i64 x.n, .int .i64 x.o, .int .i64 x.s, .int .i64 x.v]
  be : Below w.heap.size w W
theorem Px.below {w W W' : World} {x : Pl} (h : Px w W x) (hb : Below W.heap.size W W') : Px w W' x :=
  ⟨Blk.below h.b hb (Blk.lt h.b), Blk.below h.d hb (Blk.lt h.d), Blk.below h.a hb (Blk.lt h.a), h.be.trans (hb.mono h.be.size)⟩
theorem px_new (w : World) (x : Pl) : Px w (((w.alloc (.cells x.vals 26)).alloc (.cells #[.int .i64 0, .string nob] 30)).alloc (.cells #[.int .i64 x.n, .int .i64 x.o, .int .i64 x.s, .int .i64 x.v] 99)) x :=
  ⟨Blk.alloc (Blk.alloc (Blk.new w _ _) _) _, Blk.alloc (Blk.newAt _ _ _ (by simp)) _, Blk.newAt _ _ _ (by simp), (alloc2 _ _ _).alloc (by simp; omega) _⟩


set_option maxRecDepth 100000 in
theorem pmake_four (x : Pl) (w : World) (h1 : inB 65535 x.four = false) :
    Calls Try.prog 12 #[.agg x.vals] w fun e w' => e = .returned (.tuple #[.agg #[.int .i64 0, .string nob], .int .i64 15]) ∧ Below w.heap.size w w' := by
  obtain ⟨n, o, s, v, t⟩ := x
  have hx := px_new w ⟨n, o, s, v, t⟩
  have kw := fun V a => within_at 65535 a 4 4 [n, o, s, v] V rfl (by simp)
  have kt := fun V g hg => within_new 255 V [t] 1 g #[.int .i64 t] rfl rfl hg (by simp)
  unfold Pl.vals at hx ⊢
  have ha : Ints _ (some ⟨w.heap.size + 1 + 1, 0, none⟩) [n, o, s, v] := ints_blk hx.a rfl
  dsimp only [Pl.four] at *
  rw [h1] at kw
  go_enter Try.func12, Try.ntmps12
  go_wp2_with fail
  (with_reducible refine (kw _ _ ha).mono ?_); rintro e W1 ⟨rfl, hb⟩
  clear kw ha
  have p1 := hx.below hb
  clear hx hb
  have g0 := Blk.cell p1.d 0 (v := .int .i64 0) rfl
  have g1 := Blk.cell p1.d 1 (v := .string nob) rfl
  have z0 := Blk.frozen p1.d 0
  have z1 := Blk.frozen p1.d 1
  have hend : Below w.heap.size w ((W1.setCell ⟨w.heap.size + 1, 0, none⟩ (.int .i64 0)).setCell ⟨w.heap.size + 1, 1, none⟩ (.string (nob))) := (p1.be.setCell (p := ⟨w.heap.size + 1, 0, none⟩) (by show w.heap.size ≤ w.heap.size + 1; omega) _).setCell (p := ⟨w.heap.size + 1, 1, none⟩) (by show w.heap.size ≤ w.heap.size + 1; omega) _
  have y0 := Blk.cell ((p1.d.set_ 0 (.int .i64 0)).set_ 1 (.string (nob))) 0 (v := .int .i64 0) rfl
  have y1 := Blk.cell ((p1.d.set_ 0 (.int .i64 0)).set_ 1 (.string (nob))) 1 (v := .string (nob)) rfl
  have HE := Lib.hid hend
  clear hend
  go_wp2_with fail
  exact bodyPost_ret (v := .tuple #[.agg #[.int .i64 0, .string (nob)], .int .i64 15]) (by simp [results, Try.results12, go_sem, y0, y1]) rfl ⟨rfl, HE.out⟩

set_option maxRecDepth 100000 in
theorem pmake_tag (x : Pl) (w : World) (h1 : inB 65535 x.four = true) (h2 : in1 255 x.t = false) :
    Calls Try.prog 12 #[.agg x.vals] w fun e w' => e = .returned (.tuple #[.agg #[.int .i64 0, .string nob], .int .i64 15]) ∧ Below w.heap.size w w' := by
  obtain ⟨n, o, s, v, t⟩ := x
  have hx := px_new w ⟨n, o, s, v, t⟩
  have kw := fun V a => within_at 65535 a 4 4 [n, o, s, v] V rfl (by simp)
  have kt := fun V g hg => within_new 255 V [t] 1 g #[.int .i64 t] rfl rfl hg (by simp)
  unfold Pl.vals at hx ⊢
  have ha : Ints _ (some ⟨w.heap.size + 1 + 1, 0, none⟩) [n, o, s, v] := ints_blk hx.a rfl
  dsimp only [Pl.four] at *
  rw [h1] at kw
  go_enter Try.func12, Try.ntmps12
  go_wp2_with fail
  (with_reducible refine (kw _ _ ha).mono ?_); rintro e W1 ⟨rfl, hb⟩
  clear kw ha
  have p1 := hx.below hb
  clear hx hb
  have f4 := Blk.cell p1.b 4 (v := .int .i64 t) rfl
  have hi : inB 255 [t] = false := by simp [inB]; simpa using h2
  rw [hi] at kt
  go_wp2_with fail
  (with_reducible refine (kt _ _ rfl).mono ?_); rintro e W2 ⟨rfl, hb⟩
  have p2 := p1.below hb
  clear p1 hb f4 kt
  have g0 := Blk.cell p2.d 0 (v := .int .i64 0) rfl
  have g1 := Blk.cell p2.d 1 (v := .string nob) rfl
  have z0 := Blk.frozen p2.d 0
  have z1 := Blk.frozen p2.d 1
  have hend : Below w.heap.size w ((W2.setCell ⟨w.heap.size + 1, 0, none⟩ (.int .i64 0)).setCell ⟨w.heap.size + 1, 1, none⟩ (.string (nob))) := (p2.be.setCell (p := ⟨w.heap.size + 1, 0, none⟩) (by show w.heap.size ≤ w.heap.size + 1; omega) _).setCell (p := ⟨w.heap.size + 1, 1, none⟩) (by show w.heap.size ≤ w.heap.size + 1; omega) _
  have y0 := Blk.cell ((p2.d.set_ 0 (.int .i64 0)).set_ 1 (.string (nob))) 0 (v := .int .i64 0) rfl
  have y1 := Blk.cell ((p2.d.set_ 0 (.int .i64 0)).set_ 1 (.string (nob))) 1 (v := .string (nob)) rfl
  have HE := Lib.hid hend
  clear hend
  go_wp2_with fail
  exact bodyPost_ret (v := .tuple #[.agg #[.int .i64 0, .string (nob)], .int .i64 15]) (by simp [results, Try.results12, go_sem, y0, y1]) rfl ⟨rfl, HE.out⟩

set_option maxRecDepth 100000 in
set_option maxHeartbeats 1600000 in
theorem pmake_ok (x : Pl) (w : World) (h1 : inB 65535 x.four = true) (h2 : in1 255 x.t = true) :
    Calls Try.prog 12 #[.agg x.vals] w fun e w' => e = .returned (.tuple #[.agg #[.int .i64 19, .string x.body], .int .i64 0]) ∧ Below w.heap.size w w' := by
  obtain ⟨n, o, s, v, t⟩ := x
  have hx := px_new w ⟨n, o, s, v, t⟩
  have kw := fun V a => within_at 65535 a 4 4 [n, o, s, v] V rfl (by simp)
  have kt := fun V g hg => within_new 255 V [t] 1 g #[.int .i64 t] rfl rfl hg (by simp)
  unfold Pl.vals at hx ⊢
  have ha : Ints _ (some ⟨w.heap.size + 1 + 1, 0, none⟩) [n, o, s, v] := ints_blk hx.a rfl
  dsimp only [Pl.four] at *
  rw [h1] at kw
  go_enter Try.func12, Try.ntmps12
  go_wp2_with fail
  (with_reducible refine (kw _ _ ha).mono ?_); rintro e W1 ⟨rfl, hb⟩
  clear kw ha
  have p1 := hx.below hb
  clear hx hb
  have f4 := Blk.cell p1.b 4 (v := .int .i64 t) rfl
  have hi : inB 255 [t] = true := by simp [inB]; simpa using h2
  rw [hi] at kt
  have hfour : (0 ≤ n ∧ n ≤ 65535) ∧ (0 ≤ o ∧ o ≤ 65535) ∧ (0 ≤ s ∧ s ≤ 65535) ∧ (0 ≤ v ∧ v ≤ 65535) := by simpa [inB, in1] using h1
  have ht : 0 ≤ t ∧ t ≤ 255 := by simpa [in1] using h2
  clear h1 h2 hi
  go_wp2_with fail
  (with_reducible refine (kt _ _ rfl).mono ?_); rintro e W2 ⟨rfl, hb⟩
  have p2 := p1.below hb
  clear p1 hb f4 kt
  have a0 := Blk.cell p2.a 0 (v := .int .i64 n) rfl
  have a1 := Blk.cell p2.a 1 (v := .int .i64 o) rfl
  have a2 := Blk.cell p2.a 2 (v := .int .i64 s) rfl
  have a3 := Blk.cell p2.a 3 (v := .int .i64 v) rfl
  go_wp2_with fail
  have HF := Lib.hid hfour
  clear hfour a0 a1 a2 a3
  go_loopw [5, 29] (fun bd i wr => ∃ (k : Nat) (b : ByteArray), k ≤ 4 ∧ bd = .string b ∧ i = .int .i64 k ∧ Hid (b = strOfNums (twos ([n, o, s, v].take k))) ∧ b.size ≤ 8 ∧ Px w wr ⟨n, o, s, v, t⟩) (fun _ i _ => 4 - (intOf i).toNat)
  case atStart => exact ⟨0, nob, by omega, rfl, rfl, Lib.hid rfl, Nat.zero_le _, p2⟩
  case round =>
    clear p2
    obtain ⟨k, b, hk, rfl, rfl, hI, hbs, hp⟩ := hrel
    by_cases hk4 : k < 4
    · have t0 : decide ((k : Int) < 4) = true := by simp; omega
      obtain ⟨y, hy, hidx, hyb⟩ := four_at n o s v k hk4 HF.out
      have kt := fun V => two_any y V hyb
      have hnew : b ++ strOfNums [y / 256, y % 256] = strOfNums (twos ([n, o, s, v].take (k + 1))) := by
        rw [hI.out, son_append, List.take_add_one, hy]
        simp [twos]
      have hbs2 : (b ++ strOfNums [y / 256, y % 256]).size ≤ 8 := by
        rw [hnew, strOfNums_size]
        rcases (show k = 0 ∨ k = 1 ∨ k = 2 ∨ k = 3 by omega) with rfl | rfl | rfl | rfl <;> simp [twos]
      have hadd : ∀ U : World, (Op.stringOp .add b (strOfNums [y / 256, y % 256])).run Try.prog U = .ok (.string (b ++ strOfNums [y / 256, y % 256])) U := fun U => run_string_add_sum U _ _ (by rw [strOfNums_size]; simp only [List.length_cons, List.length_nil]; omega)
      have HN := Lib.hid hnew
      clear hnew hy hyb
      go_wp2_with fail
      (with_reducible refine (kt _).mono ?_); rintro e W3 ⟨rfl, hb⟩
      have hp3 := hp.below hb
      clear kt hp hb
      go_wp2_with fail
      go_roundw
      case rel => exact ⟨k + 1, _, by omega, rfl, by go_num, HN, hbs2, hp3⟩
      case measure => simp [intOf]; omega
    · obtain rfl : k = 4 := by omega
      have q : Blk (wr.alloc (.cells #[.int .u8 t] 5)) wr.heap.size 5 #[.int .u8 t] := Blk.new _ _ _
      have q2 : IntKind.u8.wrap t = t := by rw [IntKind.wrap_u8]; omega
      have hcv := conv_new wr [t] 1 wr.heap.size #[.int .u8 t] rfl rfl rfl
      have hadd : ∀ U : World, (Op.stringOp .add b (strOfNums [t])).run Try.prog U = .ok (.string (b ++ strOfNums [t])) U := fun U => run_string_add_sum U _ _ (by rw [strOfNums_size]; simp only [List.length_cons, List.length_nil]; omega)
      have HB : Hid (Pl.body ⟨n, o, s, v, t⟩ = b ++ strOfNums [t]) := Lib.hid (by rw [hI.out, son_append]; rfl)
      have p3 := hp.below ((Below.refl _ _).alloc (Nat.le_refl _) (.cells #[.int .u8 t] 5))
      have f4 := Blk.cell hp.b 4 (v := .int .i64 t) rfl
      clear hI q
      have g0 := Blk.cell p3.d 0 (v := .int .i64 0) rfl
      have g1 := Blk.cell p3.d 1 (v := .string nob) rfl
      have z0 := Blk.frozen p3.d 0
      have z1 := Blk.frozen p3.d 1
      have hend : Below w.heap.size w (((wr.alloc (.cells #[.int .u8 t] 5)).setCell ⟨w.heap.size + 1, 0, none⟩ (.int .i64 19)).setCell ⟨w.heap.size + 1, 1, none⟩ (.string (b ++ strOfNums [t]))) := (p3.be.setCell (p := ⟨w.heap.size + 1, 0, none⟩) (by show w.heap.size ≤ w.heap.size + 1; omega) _).setCell (p := ⟨w.heap.size + 1, 1, none⟩) (by show w.heap.size ≤ w.heap.size + 1; omega) _
      have y0 := Blk.cell ((p3.d.set_ 0 (.int .i64 19)).set_ 1 (.string (b ++ strOfNums [t]))) 0 (v := .int .i64 19) rfl
      have y1 := Blk.cell ((p3.d.set_ 0 (.int .i64 19)).set_ 1 (.string (b ++ strOfNums [t]))) 1 (v := .string (b ++ strOfNums [t])) rfl
      have HE := Lib.hid hend
      clear hend
      go_wp2_with fail
      exact bodyPost_ret (v := .tuple #[.agg #[.int .i64 19, .string (b ++ strOfNums [t])], .int .i64 0]) (by simp [results, Try.results12, go_sem, y0, y1]) rfl ⟨by rw [HB.out], HE.out⟩
end Go.Proofs.Ytbceakdifklocaa.DsC
