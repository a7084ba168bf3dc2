/- Walks over the statements' own helpers of layer 21: of, may, same, few. -/
import Derived.Test.YtknjnpagbpjlkaaAwT
namespace Go.Proofs.Ytknjnpagbpjlkaa.AwV
open Go.RowKit Go.Proofs.Ytknjnpagbpjlkaa.Q Go.Proofs.Ytknjnpagbpjlkaa.Mem Go.Proofs.Ytknjnpagbpjlkaa.AwA Go.Proofs.Ytknjnpagbpjlkaa.AwB Go.Proofs.Ytknjnpagbpjlkaa.AwC Go.Proofs.Ytknjnpagbpjlkaa.AwD Go.Proofs.Ytknjnpagbpjlkaa.AwE Go.Proofs.Ytknjnpagbpjlkaa.AwR Go.Proofs.Ytknjnpagbpjlkaa.AwT

theorem lmay_any (u g b p : Int) (w : World) : Calls Try.prog 12 #[.agg #[.int .i64 u, .int .i64 g, .int .i64 b, .int .i64 p]] w fun e w' => e = .returned (.bool (Aw.cfg u g b p)) ∧ w.alloc (.cells #[.int .i64 u, .int .i64 g, .int .i64 b, .int .i64 p] 23) = w' := by
  go_enter Try.func12, Try.ntmps12
  go_wp2_with (go_at_call 25; (with_reducible refine (may_any _ _ _ _ _).mono ?_); rintro e w' ⟨rfl, rfl⟩)
  go_ret
  exact ⟨rfl, rfl⟩

/-- the document's new machine, in a block that was not there -/
def OfOk (u g b p : Int) (w : World) (e : Ending) (w' : World) : Prop :=
  ∃ n, w.heap.size ≤ n ∧ e = .returned (.pointer (some ⟨n, 0, none⟩)) ∧ RAt w' n (Aw.start u g b p) ∧ Below w.heap.size w w'
theorem of_any (u g b p : Int) (w : World) : Calls Try.prog 14 #[.agg #[.int .i64 u, .int .i64 g, .int .i64 b, .int .i64 p]] w (OfOk u g b p w) := by
  go_enter Try.func14, Try.ntmps14
  go_wp2
  go_ret
  exact ⟨w.heap.size + 1, by omega, rfl, RAt.ofK (Blk.newAt _ _ _ (by simp)) rfl, ((Below.refl _ _).alloc (Nat.le_refl _) _).alloc (by simp) _⟩

set_option maxHeartbeats 1000000 in
theorem same_any (m : Aw.M) (g r : Nat) (w : World) (hm : At w g m) (hr : RAt w r m) : Calls Try.prog 15 #[.pointer (some ⟨g, 0, none⟩), .pointer (some ⟨r, 0, none⟩)] w fun e w' => e = .returned (.bool true) ∧ Below w.heap.size w w' := by
  have hrlt : r < w.heap.size := Blk.lt hr
  have c4 := fun p => Blk.cell (blk_ext hr p) 4 (v := .int .i64 m.now) rfl
  have c5 := fun p => Blk.cell (blk_ext hr p) 5 (v := .int .i64 m.state) rfl
  have c8 := fun p => Blk.cell (blk_ext hr p) 8 (v := .int .i64 m.wake) rfl
  have c9 := fun p => Blk.cell (blk_ext hr p) 9 (v := .int .i64 m.last) rfl
  have c10 := fun p => Blk.cell (blk_ext hr p) 10 (v := .int .i64 m.spent) rfl
  have c11 := fun p => Blk.cell (blk_ext hr p) 11 (v := .int .i64 m.missed) rfl
  have ks := fun p => stat_any m g (ext w p) (blk_ext hm p)
  unfold stat at ks
  go_enter Try.func15, Try.ntmps15
  go_wp2
  refine Go.Proofs.Ytknjnpagbpjlkaa.Q.region_ext (by kernel_rfl) (by kernel_rfl) ?_
  repeat (go_big_quiet_step ((first | (go_at_call 24; refine ext_call_same (awake_any m g _ (blk_ext hm _))) | (go_at_call 23; refine ext_call (ks _)))))
  refine wpQuiet_nil ?_
  rintro w1 ⟨pq, rfl⟩
  go_wp2
  go_ret
  exact ⟨rfl, below_ext _ _⟩

/-- a call of the statements -/
structure OpD where
  ask : Int
  n : Int
  d : Int
  tb : Bool
  fr : Bool
  a : Int
def OpD.cells (o : OpD) : List Value := [.int .i64 o.ask, .int .i64 o.n, .int .i64 o.d, .bool o.tb, .bool o.fr, .int .i64 o.a]
/-- the calls lie at b, from o on, in a block below B -/
def Ops (w : World) (b o : Nat) (l : List OpD) : Prop := ∀ i x, l[i]? = some x → ∀ j v, x.cells[j]? = some v → w.cell? ⟨b, o + i * 6 + j, none⟩ = some v
def fewB (l : List OpD) : Bool := l.all (fun o => !(decide (300 < o.n) && decide (o.n ≤ 1048576))) && decide (l.length ≤ 60)

theorem few_snoc {l : List OpD} {k : Nat} {x : OpD} (h : ∀ y ∈ l.take k, ¬ (300 < y.n ∧ y.n ≤ 1048576)) (hx : l[k]? = some x) (hn : ¬ (300 < x.n ∧ x.n ≤ 1048576)) : ∀ y ∈ l.take (k + 1), ¬ (300 < y.n ∧ y.n ≤ 1048576) := by
  intro y hy
  rw [List.take_add_one, hx] at hy
  rcases List.mem_append.1 hy with hy | hy
  · exact h y hy
  · obtain rfl : y = x := by simpa using hy
    exact hn
theorem few_no {l : List OpD} {k : Nat} {x : OpD} (hx : l[k]? = some x) (hn : 300 < x.n ∧ x.n ≤ 1048576) : false = fewB l := by
  have : l.all (fun o => !(decide (300 < o.n) && decide (o.n ≤ 1048576))) = false := by
    rw [List.all_eq_false]
    exact ⟨x, List.mem_of_getElem? hx, by simp [hn]⟩
  unfold fewB
  rw [this]
  rfl
theorem few_yes {l : List OpD} (h : ∀ y ∈ l.take l.length, ¬ (300 < y.n ∧ y.n ≤ 1048576)) : decide ((l.length : Int) ≤ 60) = fewB l := by
  have : l.all (fun o => !(decide (300 < o.n) && decide (o.n ≤ 1048576))) = true := by
    rw [List.all_eq_true]
    intro x hx
    have := h x (by rw [List.take_length]; exact hx)
    simp only [Bool.not_eq_true', Bool.and_eq_false_iff, decide_eq_false_iff_not]
    omega
  unfold fewB
  rw [this, Bool.true_and, decide_eq_decide]
  omega

set_option maxHeartbeats 1000000 in
theorem few_any (b o cap : Nat) (l : List OpD) (w : World) (hl : l.length ≤ 9223372036854775807) (hx : Ops w b o l) : Calls Try.prog 9 #[.slice (some ⟨b, o, none⟩) l.length cap] w fun e w' => e = .returned (.bool (fewB l)) ∧ w = w' := by
  go_enter Try.func9, Try.ntmps9
  go_wp2
  go_loop [3] (fun i => ∃ k : Nat, k ≤ l.length ∧ i = .int .i64 k ∧ (∀ x ∈ l.take k, ¬ (300 < x.n ∧ x.n ≤ 1048576))) (fun i => l.length - (intOf i).toNat)
  case atStart => exact ⟨0, Nat.zero_le _, rfl, by simp⟩
  case round =>
    obtain ⟨k, hk, rfl, hall⟩ := hrel
    by_cases hlt : k < l.length
    · obtain ⟨x, hxk⟩ : ∃ x, l[k]? = some x := ⟨_, List.getElem?_eq_getElem hlt⟩
      have cn := hx k x hxk 1 _ rfl
      have HX := Lib.hid hxk
      have HA := Lib.hid hall
      clear hxk hall hx
      go_wp2
      · go_ret
        exact ⟨ret_bool (few_no HX.out ⟨by assumption, by assumption⟩), rfl⟩
      all_goals
        go_round
        case rel => exact ⟨k + 1, by omega, by go_num, few_snoc HA.out HX.out (by omega)⟩
        case measure => simp [intOf]; omega
    · obtain rfl : k = l.length := by omega
      go_wp2
      go_ret
      exact ⟨ret_bool (few_yes hall), rfl⟩
end Go.Proofs.Ytknjnpagbpjlkaa.AwV
