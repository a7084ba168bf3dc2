/- The walk over the statements' own 'at': a number of a list, as one from 0 to below another one. -/
import Derived.Test.YtknjnpagbpjlkaaAwV
namespace Go.Proofs.Ytknjnpagbpjlkaa.AwAt
open Go.RowKit Go.Proofs.Ytknjnpagbpjlkaa.Q Go.Proofs.Ytknjnpagbpjlkaa.Mem Go.Proofs.Ytknjnpagbpjlkaa.AwA Go.Proofs.Ytknjnpagbpjlkaa.AwB

/-- the numbers of a slice -/
def Ints (w : World) (a : Option Addr) (zs : List Int) : Prop :=
  ∀ i x, zs[i]? = some x → ∃ b o, a = some ⟨b, o, none⟩ ∧ b < w.heap.size ∧ w.cell? ⟨b, o + i, none⟩ = some (.int .i64 x)
theorem Ints.below {w w' : World} {a : Option Addr} {zs : List Int} {B : Nat} (h : Ints w a zs) (hB : w.heap.size ≤ B) (hb : Below B w w') : Ints w' a zs := fun i x hi => by
  obtain ⟨b, o, h1, h2, h3⟩ := h i x hi
  exact ⟨b, o, h1, Nat.lt_of_lt_of_le h2 hb.size, (hb.cell (p := ⟨b, o + i, none⟩) (by show b < B; omega)).trans h3⟩

def goRem (x B : Int) : Int := if x.tmod B < 0 then x.tmod B + B else x.tmod B
def atv (zs : List Int) (k : Nat) (B : Int) : Int := match zs[k]? with
  | some x => goRem x B
  | none => 0
theorem goRem_bounds (x B : Int) (hB : 1 ≤ B) : 0 ≤ goRem x B ∧ goRem x B < B := by
  have h1 := Int.tmod_lt_of_pos x (show 0 < B by omega)
  have h2 := Int.lt_tmod_of_pos x (show 0 < B by omega)
  unfold goRem
  split <;> omega
theorem atv_bounds (zs : List Int) (k : Nat) (B : Int) (hB : 1 ≤ B) : 0 ≤ atv zs k B ∧ atv zs k B < B := by
  unfold atv
  split
  · exact goRem_bounds _ _ hB
  · omega

set_option maxHeartbeats 1000000 in
theorem at_any (a : Option Addr) (zs : List Int) (k cap : Nat) (B : Int) (w : World) (hB : 1 ≤ B) (hB' : B ≤ 1048576) (hz : Ints w a zs) :
    Calls Try.prog 22 #[.slice a zs.length cap, .int .i64 k, .int .i64 B] w fun e w' => e = .returned (.int .i64 (atv zs k B)) ∧ w = w' := by
  by_cases hlt : k < zs.length
  · obtain ⟨x, hx⟩ : ∃ x, zs[k]? = some x := ⟨_, List.getElem?_eq_getElem hlt⟩
    obtain ⟨b, o, rfl, hb, hc⟩ := hz k x hx
    have hv : atv zs k B = goRem x B := by unfold atv; rw [hx]
    rw [hv]
    have h1 := Int.tmod_lt_of_pos x (show 0 < B by omega)
    have h2 := Int.lt_tmod_of_pos x (show 0 < B by omega)
    have b0 : (B == 0) = false := by simp; omega
    clear hz hx hv
    go_enter Try.func22, Try.ntmps22
    go_wp2
    all_goals go_ret
    all_goals exact ⟨ret_i64 (by unfold goRem; split <;> omega), rfl⟩
  · have hv : atv zs k B = 0 := by unfold atv; rw [List.getElem?_eq_none (by omega)]
    rw [hv]
    clear hz hv
    go_enter Try.func22, Try.ntmps22
    go_wp2
    go_ret
    exact ⟨rfl, rfl⟩
end Go.Proofs.Ytknjnpagbpjlkaa.AwAt
