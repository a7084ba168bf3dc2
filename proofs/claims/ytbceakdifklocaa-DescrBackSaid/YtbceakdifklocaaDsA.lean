/- descr: the small functions. -/
import Derived.Test.YtbceakdifklocaaRows
import Derived.Test.YtbceakdifklocaaQ
import Derived.Test.YtbceakdifklocaaBy
import Derived.Lib.Hide
import Derived.Outline
namespace Go.Proofs.Ytbceakdifklocaa.DsA
open Go.RowKit Go.Proofs.Ytbceakdifklocaa.Q Go.Proofs.Ytbceakdifklocaa.Mem

/-- a slice of integers -/
def Ints (w : World) (a : Option Addr) (zs : List Int) : Prop := ∀ i x, zs[i]? = some x → ∃ b o, a = some ⟨b, o, none⟩ ∧ b < w.heap.size ∧ w.cell? ⟨b, o + i, none⟩ = some (.int .i64 x)
theorem Ints.below {w w' : World} {a : Option Addr} {zs : List Int} {B : Nat} (h : Ints w a zs) (hB : w.heap.size ≤ B) (hb : Below B w w') : Ints w' a zs := fun i x hi => by
  obtain ⟨b, o, e, hlt, hc⟩ := h i x hi
  exact ⟨b, o, e, by have := hb.size; omega, (hb.cell (p := ⟨b, _, none⟩) (by show b < B; omega)).trans hc⟩
theorem ints_blk {w : World} {g : Nat} {t : TypeId} {zs : List Int} {cs : Array Value} (h : Blk w g t cs) (hc : cs = (zs.map (Value.int .i64)).toArray) : Ints w (some ⟨g, 0, none⟩) zs := fun i x hi =>
  ⟨g, 0, rfl, Blk.lt h, by rw [Nat.zero_add]; exact Blk.cell h i (by rw [hc]; simp [hi])⟩

def in1 (most n : Int) : Bool := decide (0 ≤ n ∧ n ≤ most)
def inB (most : Int) (l : List Int) : Bool := l.all (in1 most)

theorem closure_yes (B : Nat) (most n : Int) (w : World) (hc : w.cell? ⟨B, 0, none⟩ = some (.int .i64 most)) (h : in1 most n = true) :
    Calls Try.prog 54 #[.int .i64 n, .pointer (some ⟨B, 0, none⟩)] w fun e w' => e = .returned (.bool false) ∧ w = w' := by
  have h' : 0 ≤ n ∧ n ≤ most := by simpa [in1] using h
  have t0 : decide (n < 0) = false := by simp; omega
  have t1 : decide (most < n) = false := by simp; omega
  clear h h'
  go_enter Try.func54, Try.ntmps54
  go_wp2
  go_ret
  exact ⟨rfl, rfl⟩
theorem closure_no (B : Nat) (most n : Int) (w : World) (hc : w.cell? ⟨B, 0, none⟩ = some (.int .i64 most)) (h : in1 most n = false) :
    Calls Try.prog 54 #[.int .i64 n, .pointer (some ⟨B, 0, none⟩)] w fun e w' => e = .returned (.bool true) ∧ w = w' := by
  have h' : ¬ (0 ≤ n ∧ n ≤ most) := by simpa [in1] using h
  by_cases h0 : n < 0
  · have t0 : decide (n < 0) = true := by simpa using h0
    clear h h'
    go_enter Try.func54, Try.ntmps54
    go_wp2
    go_ret
    exact ⟨rfl, rfl⟩
  · have t0 : decide (n < 0) = false := by simpa using h0
    have t1 : decide (most < n) = true := by simp; omega
    clear h h' h0
    go_enter Try.func54, Try.ntmps54
    go_wp2
    go_ret
    exact ⟨rfl, rfl⟩

/-- what IndexFunc hands back -/
structure Idx (e : Ending) (w w' : World) (b : Bool) : Prop where
  ret : ∃ r : Int, e = .returned (.int .i64 r) ∧ decide (0 ≤ r) = b
  same : w = w'

set_option maxRecDepth 100000 in
theorem ifunc_any (B : Nat) (most : Int) (a : Option Addr) (cap : Nat) (L : List Int) (w : World) (hl : L.length ≤ 1099511627776) (hc : w.cell? ⟨B, 0, none⟩ = some (.int .i64 most)) (hL : Ints w a L) :
    Calls Try.prog 56 #[.slice a L.length cap, .func (.func 54) #[] #[.pointer (some ⟨B, 0, none⟩)]] w fun e w' => Idx e w w' (!inB most L) := by
  have HL := Lib.hid hL
  clear hL
  go_enter Try.func56, Try.ntmps56
  go_wp2_with fail
  go_loop [8] (fun i => ∃ k : Nat, k ≤ L.length ∧ i = .int .i64 k ∧ Hid (inB most (L.take k) = true)) (fun i => L.length - (intOf i).toNat)
  case atStart => exact ⟨0, by omega, rfl, Lib.hid rfl⟩
  case round =>
    obtain ⟨k, hk, rfl, hI⟩ := hrel
    by_cases hkl : k < L.length
    · have t0 : decide (k < L.length) = true := by simpa using hkl
      obtain ⟨x, hx⟩ : ∃ x, L[k]? = some x := ⟨L[k], List.getElem?_eq_getElem hkl⟩
      obtain ⟨b1, o1, rfl, l1, c1⟩ := HL.out k x hx
      have HX := Lib.hid hx
      clear hx
      cases hv : in1 most x with
      | true =>
        have kc := closure_yes B most x w hc hv
        have HI := Lib.hid (show inB most (L.take (k + 1)) = true by rw [List.take_add_one, HX.out]; simp only [inB, List.all_append, Bool.and_eq_true]; exact ⟨hI.out, by simp [hv]⟩)
        clear hv
        go_wp2_with fail
        (with_reducible refine (kc).mono ?_); rintro e w1 ⟨rfl, rfl⟩
        clear kc
        go_wp2_with fail
        go_round
        case rel => exact ⟨k + 1, by omega, by go_num, HI⟩
        case measure => simp [intOf]; omega
      | false =>
        have kc := closure_no B most x w hc hv
        have hbad : inB most L = false := by
          have hm : x ∈ L := List.mem_of_getElem? HX.out
          cases hb : inB most L with
          | false => rfl
          | true => have := List.all_eq_true.1 hb x hm; rw [hv] at this; cases this
        have HB := Lib.hid hbad
        clear hv hbad
        go_wp2_with fail
        (with_reducible refine (kc).mono ?_); rintro e w1 ⟨rfl, rfl⟩
        clear kc
        go_wp2_with fail
        go_ret
        exact ⟨⟨k, rfl, by rw [HB.out]; simp⟩, rfl⟩
    · obtain rfl : k = L.length := by omega
      have t0 : decide (L.length < L.length) = false := by simp
      have hI2 := hI.out
      rw [List.take_length] at hI2
      have HI2 := Lib.hid hI2
      clear hI2 hI
      go_wp2_with fail
      go_ret
      exact ⟨⟨-1, rfl, by rw [HI2.out]; simp⟩, rfl⟩

theorem within_any (most : Int) (a : Option Addr) (cap : Nat) (L : List Int) (w : World) (hl : L.length ≤ 1099511627776) (hL : Ints w a L) :
    Calls Try.prog 38 #[.int .i64 most, .slice a L.length cap] w fun e w' => e = .returned (.bool (inB most L)) ∧ Below w.heap.size w w' := by
  have hc := Blk.cell (Blk.new w 3 #[.int .i64 most]) 0 (v := .int .i64 most) rfl
  have hb : Below w.heap.size w (w.alloc (.cells #[.int .i64 most] 3)) := (Below.refl _ _).alloc (Nat.le_refl _) _
  have ki := ifunc_any w.heap.size most a cap L _ hl hc (hL.below (Nat.le_refl _) hb)
  clear hL
  go_enter Try.func38, Try.ntmps38
  go_wp2_with fail
  have kc : Calls Try.prog 53 #[.slice a L.length cap, .func (.func 54) #[] #[.pointer (some ⟨w.heap.size, 0, none⟩)]] (w.alloc (.cells #[.int .i64 most] 3)) fun e w' => e = .returned (.bool (!inB most L)) ∧ w.alloc (.cells #[.int .i64 most] 3) = w' := by
    clear hc
    go_enter Try.func53, Try.ntmps53
    go_wp2_with fail
    (with_reducible refine (ki).mono ?_); rintro e w1 ⟨⟨r, rfl, hr⟩, rfl⟩
    clear ki
    go_wp2_with fail
    go_ret
    exact ⟨by rw [← hr]; rfl, rfl⟩
  (with_reducible refine (kc).mono ?_); rintro e w1 ⟨rfl, rfl⟩
  clear kc ki
  go_wp2_with fail
  go_ret
  exact ⟨by simp, hb⟩

theorem bit_any (b : Bool) (n : Int) (w : World) : Calls Try.prog 39 #[.bool b, .int .i64 n] w fun e w' => e = .returned (.int .i64 (if b then n else 0)) ∧ w = w' := by
  cases b
  · go_enter Try.func39, Try.ntmps39
    go_wp2
    go_ret
    exact ⟨rfl, rfl⟩
  · go_enter Try.func39, Try.ntmps39
    go_wp2
    go_ret
    exact ⟨rfl, rfl⟩
theorem rin_any (n most : Int) (w : World) : Calls Try.prog 41 #[.int .i64 n, .int .i64 most] w fun e w' => e = .returned (.bool (in1 most n)) ∧ w = w' := by
  by_cases h0 : 0 ≤ n
  · have t0 : decide (0 ≤ n) = true := by simpa using h0
    by_cases h1 : n ≤ most
    · have t1 : decide (n ≤ most) = true := by simpa using h1
      have HR := Lib.hid (show in1 most n = true by simp [in1]; omega)
      clear h0 h1
      go_enter Try.func41, Try.ntmps41
      go_wp2
      go_ret
      exact ⟨by rw [HR.out]; rfl, rfl⟩
    · have t1 : decide (n ≤ most) = false := by simpa using h1
      have HR := Lib.hid (show in1 most n = false by simp [in1]; omega)
      clear h0 h1
      go_enter Try.func41, Try.ntmps41
      go_wp2
      go_ret
      exact ⟨by rw [HR.out]; rfl, rfl⟩
  · have t0 : decide (0 ≤ n) = false := by simpa using h0
    have HR := Lib.hid (show in1 most n = false by simp [in1]; omega)
    clear h0
    go_enter Try.func41, Try.ntmps41
    go_wp2
    go_ret
    exact ⟨by rw [HR.out]; rfl, rfl⟩
end Go.Proofs.Ytbceakdifklocaa.DsA
