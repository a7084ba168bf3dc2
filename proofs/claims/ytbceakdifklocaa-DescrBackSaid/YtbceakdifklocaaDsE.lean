/- descr: equality of its structs; Make of any Slice and of any Place; the examples. -/
import Derived.Test.YtbceakdifklocaaDsD
import Derived.Laws.StructEq
namespace Go.Proofs.Ytbceakdifklocaa.DsE
open Go.RowKit Go.Proofs.Ytbceakdifklocaa.Q Go.Proofs.Ytbceakdifklocaa.Mem Go.Proofs.Ytbceakdifklocaa.DsA Go.Proofs.Ytbceakdifklocaa.DsB Go.Proofs.Ytbceakdifklocaa.DsC Go.Proofs.Ytbceakdifklocaa.DsD

theorem bytes_eq (a b : ByteArray) : (a.toList == b.toList) = decide (a = b) := by
  rw [ByteArray.toList_eq, ByteArray.toList_eq]
  obtain ⟨⟨x⟩⟩ := a
  obtain ⟨⟨y⟩⟩ := b
  by_cases h : x = y <;> simp [h]
theorem tl_iff (a b : ByteArray) : a.toList = b.toList ↔ a = b := by
  have := bytes_eq a b
  by_cases h : a = b
  · simp [h]
  · simp [h] at this
    simp [h, this]
theorem dc_iff {a b : Dc} : a = b ↔ a.tag = b.tag ∧ a.body = b.body := ⟨fun h => by subst h; exact ⟨rfl, rfl⟩, fun ⟨h1, h2⟩ => by cases a; cases b; simp_all⟩
instance : DecidableEq Dc := fun _ _ => decidable_of_iff _ dc_iff.symm
theorem sl_iff {a b : Sl} : a = b ↔ a.sl = b.sl ∧ a.fec = b.fec ∧ a.rows = b.rows ∧ a.burst = b.burst ∧ a.rate = b.rate ∧ a.id = b.id ∧ a.more = b.more := ⟨fun h => by subst h; simp, fun ⟨h1, h2, h3, h4, h5, h6, h7⟩ => by cases a; cases b; simp_all⟩
instance : DecidableEq Sl := fun _ _ => decidable_of_iff _ sl_iff.symm
theorem pl_iff {a b : Pl} : a = b ↔ a.n = b.n ∧ a.o = b.o ∧ a.s = b.s ∧ a.v = b.v ∧ a.t = b.t := ⟨fun h => by subst h; simp, fun ⟨h1, h2, h3, h4, h5⟩ => by cases a; cases b; simp_all⟩
instance : DecidableEq Pl := fun _ _ => decidable_of_iff _ pl_iff.symm
theorem eqD (a b : Dc) (w : World) : (Op.equalIn 10000 30 (.agg #[.int .i64 a.tag, .string a.body]) (.agg #[.int .i64 b.tag, .string b.body])).run Try.prog w = .ok (decide (a = b)) w := by
  have hS : Try.prog.underlying 30 = some (.struct (Try.prog.fieldsOf 30)) := by kernel_rfl
  have hp : Try.prog.stoodInHeld 30 = false := by kernel_rfl
  rw [show (10000 : Nat) = 9999 + 1 from rfl, run_equalIn_agg w 9999 30 _ _ hS hp]
  simp only [Program.fieldsOf, Try.underlying30]
  go_simp
  simp only [dc_iff]
  by_cases h1 : a.tag = b.tag <;> by_cases h2 : a.body = b.body <;> simp [h1, h2, tl_iff]
set_option maxHeartbeats 1600000 in
theorem eqS (a b : Sl) (w : World) : (Op.equalIn 10000 23 (.agg a.vals) (.agg b.vals)).run Try.prog w = .ok (decide (a = b)) w := by
  unfold Sl.vals
  have hS : Try.prog.underlying 23 = some (.struct (Try.prog.fieldsOf 23)) := by kernel_rfl
  have hp : Try.prog.stoodInHeld 23 = false := by kernel_rfl
  rw [show (10000 : Nat) = 9999 + 1 from rfl, run_equalIn_agg w 9999 23 _ _ hS hp]
  simp only [Program.fieldsOf, Try.underlying23]
  go_simp
  simp only [sl_iff]
  by_cases h1 : a.sl = b.sl
  · by_cases h2 : a.fec = b.fec
    · by_cases h3 : a.rows = b.rows
      · by_cases h4 : a.burst = b.burst
        · by_cases h5 : a.rate = b.rate
          · by_cases h6 : a.id = b.id
            · by_cases h7 : a.more = b.more <;> simp [h1, h2, h3, h4, h5, h6, h7, tl_iff]
            · simp [h1, h2, h3, h4, h5, h6]
          · simp [h1, h2, h3, h4, h5]
        · simp [h1, h2, h3, h4]
      · simp [h1, h2, h3]
    · simp [h1, h2]
  · simp [h1]
theorem eqP (a b : Pl) (w : World) : (Op.equalIn 10000 26 (.agg a.vals) (.agg b.vals)).run Try.prog w = .ok (decide (a = b)) w := by
  unfold Pl.vals
  have hS : Try.prog.underlying 26 = some (.struct (Try.prog.fieldsOf 26)) := by kernel_rfl
  have hp : Try.prog.stoodInHeld 26 = false := by kernel_rfl
  rw [show (10000 : Nat) = 9999 + 1 from rfl, run_equalIn_agg w 9999 26 _ _ hS hp]
  simp only [Program.fieldsOf, Try.underlying26]
  go_simp
  simp only [pl_iff]
  by_cases h1 : a.n = b.n
  · by_cases h2 : a.o = b.o
    · by_cases h3 : a.s = b.s
      · by_cases h4 : a.v = b.v
        · by_cases h5 : a.t = b.t <;> simp [h1, h2, h3, h4, h5]
        · simp [h1, h2, h3, h4]
      · simp [h1, h2, h3]
    · simp [h1, h2]
  · simp [h1]

def slD (x : Sl) : Dc := if x.makeE = 0 then ⟨119, x.body⟩ else ⟨0, nob⟩
def plD (x : Pl) : Dc := if x.makeE = 0 then ⟨19, x.body⟩ else ⟨0, nob⟩
theorem make_any (x : Sl) (w : World) : Calls Try.prog 11 #[.agg x.vals] w fun e w' => e = .returned (.tuple #[.agg #[.int .i64 (slD x).tag, .string (slD x).body], .int .i64 x.makeE]) ∧ Below w.heap.size w w' := by
  by_cases h1 : okRows x.rows
  · cases h2 : in1 255 x.burst with
    | false =>
      have hE : x.makeE = 15 := by simp [Sl.makeE, Sl.may, h1, h2]
      have hD : (slD x) = ⟨0, nob⟩ := by simp [slD, hE]
      rw [hE, hD]
      exact make_burst x w h1 h2
    | true =>
      cases h3 : inB 15 [x.rate, x.id] with
      | false =>
        have h3' := h3
        simp only [inB, List.all_cons, List.all_nil, Bool.and_true] at h3'
        have hE : x.makeE = 15 := by simp [Sl.makeE, Sl.may, Bool.and_assoc, h3']
        have hD : (slD x) = ⟨0, nob⟩ := by simp [slD, hE]
        rw [hE, hD]
        exact make_rate x w h1 h2 h3
      | true =>
        have h3' := h3
        simp only [inB, List.all_cons, List.all_nil, Bool.and_true] at h3'
        have hM : x.may = true := by simp [Sl.may, h1, h2, h3']
        by_cases h4 : 252 < x.more.size
        · have hE : x.makeE = 11 := by simp [Sl.makeE, hM, h4]
          have hD : (slD x) = ⟨0, nob⟩ := by simp [slD, hE]
          rw [hE, hD]
          exact make_long x w h1 h2 h3 h4
        · have hE : x.makeE = 0 := by simp [Sl.makeE, hM, h4]
          have hD : (slD x) = ⟨119, x.body⟩ := by simp [slD, hE]
          rw [hE, hD]
          exact make_ok x w h1 h2 h3 (by omega)
  · have hE : x.makeE = 15 := by simp [Sl.makeE, Sl.may, h1]
    have hD : (slD x) = ⟨0, nob⟩ := by simp [slD, hE]
    rw [hE, hD]
    exact make_rows x w h1
theorem pmake_any (x : Pl) (w : World) : Calls Try.prog 12 #[.agg x.vals] w fun e w' => e = .returned (.tuple #[.agg #[.int .i64 (plD x).tag, .string (plD x).body], .int .i64 x.makeE]) ∧ Below w.heap.size w w' := by
  cases h1 : inB 65535 x.four with
  | false =>
    have hE : x.makeE = 15 := by simp [Pl.makeE, h1]
    have hD : (plD x) = ⟨0, nob⟩ := by simp [plD, hE]
    rw [hE, hD]
    exact pmake_four x w h1
  | true =>
    cases h2 : in1 255 x.t with
    | false =>
      have hE : x.makeE = 15 := by simp [Pl.makeE, h1, h2]
      have hD : (plD x) = ⟨0, nob⟩ := by simp [plD, hE]
      rw [hE, hD]
      exact pmake_tag x w h1 h2
    | true =>
      have hE : x.makeE = 0 := by simp [Pl.makeE, h1, h2]
      have hD : (plD x) = ⟨19, x.body⟩ := by simp [plD, hE]
      rw [hE, hD]
      exact pmake_ok x w h1 h2

/-- one descriptor in a fresh block -/
theorem ds_one {d : Dc} {V : World} {g : Nat} (q : Blk V g 30 #[.int .i64 d.tag, .string d.body]) : Ds V (some ⟨g, 0, none⟩) [d] := fun i d' hi => by
  obtain rfl : i = 0 := by
    match i with
    | 0 => rfl
    | i + 1 => simp at hi
  obtain rfl : d = d' := by simpa using hi
  exact ⟨g, 0, rfl, Blk.lt q, Blk.cell q 0 rfl, Blk.cell q 1 rfl⟩
/-- the examples -/
def ex : Sl := ⟨true, true, 512, 9, 2, 1, nob⟩
theorem ex_E : ex.makeE = 0 := by decide
theorem ex_mk : slD ex = ⟨119, ex.body⟩ := by simp [slD, ex_E]
theorem ex_loopE : loopE [slD ex] = 0 := by
  rw [ex_mk]
  decide
theorem ex_loop : (⟨(loopL [slD ex]).toArray⟩ : ByteArray) = { data := #[119, 3, 185, 9, 33] } := by
  rw [ex_mk]
  decide
set_option maxRecDepth 100000 in
theorem awake_any (w : World) : Calls Try.prog 10 #[] w fun e w' => e = .returned (.bool true) ∧ Below w.heap.size w w' := by
  have km := fun V => make_any ex V
  have kl := fun V g hg => loop_any (some ⟨g, 0, none⟩) 1 [slD ex] V (by simp) hg
  rw [ex_E] at km
  rw [ex_loopE, if_pos rfl, ex_loop] at kl
  simp only [ex_mk, List.length_cons, List.length_nil, Nat.zero_add] at km kl
  have hb : (#[.bool true, .bool true, .int .i64 512, .int .i64 9, .int .i64 2, .int .i64 1, .string { data := #[] }] : Array Value) = ex.vals := rfl
  go_enter Try.func10, Try.ntmps10
  go_wp2_with fail
  (with_reducible refine (km _).mono ?_); rintro e W1 ⟨rfl, hb1⟩
  go_wp2_with fail
  have q := Blk.new (W1.alloc (.cells #[.int .i64 119, .string ex.body] 30)) 30 #[.int .i64 119, .string ex.body]
  have kl' := kl ((W1.alloc (.cells #[.int .i64 119, .string ex.body] 30)).alloc (.cells #[.int .i64 119, .string ex.body] 30)) (W1.heap.size + 1) (ds_one (by simpa using q))
  have hb2 := hb1.trans ((alloc2 W1 (.cells #[.int .i64 119, .string ex.body] 30) (.cells #[.int .i64 119, .string ex.body] 30)).mono hb1.size)
  clear kl km q hb1
  (with_reducible refine (kl').mono ?_); rintro e W2 ⟨rfl, hb3⟩
  have hb4 := hb2.trans (hb3.mono (by have := hb2.size; simpa using this))
  clear kl' hb2 hb3
  go_wp2_with fail
  go_ret
  exact ⟨rfl, hb4⟩
end Go.Proofs.Ytbceakdifklocaa.DsE
