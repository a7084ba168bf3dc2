/- Bits of a string within a byte; a reader among known blocks. -/
import Derived.Test.YtfadhgbhdoddpaaBiG
namespace Go.Proofs.Ytfadhgbhdoddpaa.BiH
open Go Go.RowKit Go.Proofs.Ytfadhgbhdoddpaa.Q Go.Proofs.Ytfadhgbhdoddpaa.Mem Go.Proofs.Ytfadhgbhdoddpaa.Rg Go.Proofs.Ytfadhgbhdoddpaa.Ap Go.Proofs.Ytfadhgbhdoddpaa.St Go.Proofs.Ytfadhgbhdoddpaa.BiP Go.Proofs.Ytfadhgbhdoddpaa.BiA Go.Proofs.Ytfadhgbhdoddpaa.BiG

/-- a byte, as a number -/
def at0 (s : ByteArray) (i : Nat) : Nat := (s.data[i]?.getD 0).toNat
theorem at0_lt (s : ByteArray) (i : Nat) : at0 s i < 256 := UInt8.toNat_lt _
theorem at0_at (s : ByteArray) (i : Nat) : at' s i = (at0 s i : Int) := rfl
theorem gb_in (s : ByteArray) (j o n : Nat) (h : o + n ≤ 8) : gb s (8 * j + o) n = at0 s j / 2 ^ (8 - o - n) % 2 ^ n := by
  induction n with
  | zero => simp [gb, Nat.mod_one]
  | succ n ih =>
    have ih := ih (by omega)
    rw [gb, ih]
    have hb : bitS s (8 * j + o + n) = at0 s j / 2 ^ (8 - o - (n + 1)) % 2 := by
      unfold bitS at0
      rw [show (8 * j + o + n) / 8 = j by omega, show 7 - (8 * j + o + n) % 8 = 8 - o - (n + 1) by omega]
    rw [hb]
    have e : 8 - o - n = (8 - o - (n + 1)) + 1 := by omega
    rw [e, Nat.pow_succ, ← Nat.div_div_eq_div_mul]
    obtain ⟨q, hq⟩ : ∃ q, at0 s j / 2 ^ (8 - o - (n + 1)) = q := ⟨_, rfl⟩
    rw [hq, Nat.pow_succ, Nat.mul_comm (2 ^ n) 2, Nat.mod_mul]
    omega
theorem gb_split (s : ByteArray) (a n m : Nat) : gb s a (n + m) = gb s a n * 2 ^ m + gb s (a + n) m := by
  induction m with
  | zero => simp [gb]
  | succ m ih =>
    rw [← Nat.add_assoc, gb, ih, gb, Nat.pow_succ, Nat.add_assoc a n m]
    have : gb s a n * 2 ^ m * 2 = 2 * (gb s a n * 2 ^ m) := Nat.mul_comm _ _
    rw [← Nat.mul_assoc, this]
    omega
theorem gb_byte (s : ByteArray) (j : Nat) : gb s (8 * j) 8 = at0 s j := by
  have := gb_in s j 0 8 (by omega)
  have h := at0_lt s j
  rw [Nat.add_zero] at this
  rw [this]
  simp; omega
set_option maxRecDepth 100000
/-- Get, among known blocks -/
theorem get_bk {w W : World} {g a n : Nat} {s : ByteArray} {L : List (Nat × TypeId × Array Value)} (h : Bk w W ((g, 118, inC a s) :: L)) (hg : w.heap.size ≤ g) (hL : ∀ x ∈ L, x.1 ≠ g) (hs : s.size ≤ 1099511627776) (hn : a + n ≤ 8 * s.size) (h64 : n ≤ 64) :
    Calls Try.prog 53 #[.pointer (some ⟨g, 0, none⟩), .int .i64 (n : Int)] W fun e W' => e = .returned (.int .u64 (gb s a n : Nat)) ∧ Bk w W' ((g, 118, inC (a + n) s) :: L) := by
  refine (get_ok g a n s W (h.nth 0 rfl) hs hn h64).mono fun e W' ⟨h1, h2, h3⟩ => ⟨h1, h.be.trans (below_of_only h3 h.size (fun k hk => by injection hk with hk; omega)), fun x hx => ?_⟩
  rcases List.mem_cons.1 hx with rfl | hx
  · exact h2
  · exact Blk.grown (h.all x (List.mem_cons_of_mem _ hx)) h3 (by simpa using hL x hx)
/-- a store into one of three known blocks -/
theorem bk_put {w W : World} {g S R : Nat} {A T T' : TypeId} {ca cs cr : Array Value} (h : Bk w W [(g, A, ca), (S, T, cs), (R, T', cr)]) (h1 : g ≠ S) (h2 : R ≠ S) (hS : w.heap.size ≤ S) (i : Nat) (v : Value) :
    Bk w (W.setCell ⟨S, i, none⟩ v) [(g, A, ca), (S, T, cs.setIfInBounds i v), (R, T', cr)] := by
  refine ⟨h.be.setCell (p := ⟨S, i, none⟩) hS v, fun x hx => ?_⟩
  rcases List.mem_cons.1 hx with rfl | hx
  · exact Blk.far (h.nth 0 rfl) h1 v
  · rcases List.mem_cons.1 hx with rfl | hx
    · exact Blk.set_ (h.nth 1 rfl) i v
    · rcases List.mem_cons.1 hx with rfl | hx
      · exact Blk.far (h.nth 2 rfl) h2 v
      · cases hx
end Go.Proofs.Ytfadhgbhdoddpaa.BiH
