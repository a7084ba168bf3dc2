/- link, plain: which configurations may be. -/
import Derived.Test.YtbiiehobfnbloaaGreatDoorPkW
namespace Go.Proofs.YtbiiehobfnbloaaGreatDoor.LnP
open Go Go.Proofs.YtbiiehobfnbloaaGreatDoor.St Go.Proofs.YtbiiehobfnbloaaGreatDoor.FrA
/-- a configuration but for its streams -/
structure Cf where
  unit : Int
  guard : Int
  most : Int
  pat : Int
  gap : Int
  every : Int
  table : Int
/-- a stream -/
structure Sm where
  pid : Int
  mac : Int
  R : Int
  C : Int
  K : Int
def enSm (s : Sm) : List Value := [.int .i64 s.pid, .int .i64 s.mac, .int .i64 s.R, .int .i64 s.C, .int .i64 s.K]
theorem enSm_len (s : Sm) : (enSm s).length = 5 := rfl
def mach (c : Cf) : Bool := decide (1 ≤ c.unit ∧ c.unit ≤ 1048576 ∧ 0 ≤ c.guard ∧ c.guard ≤ 1048576 ∧ 1 ≤ c.most ∧ c.most ≤ 1048576 ∧ 1 ≤ c.pat ∧ c.pat ≤ 1048576 ∧ c.most ≤ c.pat)
def rest (c : Cf) (n : Nat) : Bool := decide (0 ≤ c.gap ∧ c.gap ≤ 1048576 ∧ 1 ≤ c.every ∧ c.every ≤ 1048576 ∧ 1 ≤ c.table ∧ c.table ≤ 8190 ∧ 1 ≤ n ∧ n ≤ 16)
def mayS (s : Sm) : Bool := decide (1 ≤ s.pid ∧ s.pid ≤ 8190 ∧ 0 ≤ s.mac ∧ s.mac ≤ 65535) && okC s.R s.C s.K
/-- may the stream i be, behind those ahead of it? -/
def stepB (table : Int) (L : List Sm) (i : Nat) : Bool := match L[i]? with
  | some s => mayS s && decide (s.pid ≠ table ∧ ∀ x ∈ L.take i, x.pid ≠ s.pid)
  | none => true
def uptoB (table : Int) (L : List Sm) (i : Nat) : Bool := (List.range i).all (stepB table L)
def okL (c : Cf) (L : List Sm) : Bool := mach c && rest c L.length && uptoB c.table L L.length
def chkL (c : Cf) (L : List Sm) : Int := if okL c L then 0 else 23
theorem upto_succ (table : Int) (L : List Sm) (i : Nat) : uptoB table L (i + 1) = (uptoB table L i && stepB table L i) := by
  unfold uptoB
  rw [List.range_succ, List.all_append]
  simp
theorem upto_false {table : Int} {L : List Sm} {i : Nat} (hi : i < L.length) (h : stepB table L i = false) : uptoB table L L.length = false := by
  unfold uptoB
  rw [List.all_eq_false]
  exact ⟨i, List.mem_range.2 hi, by rw [h]; decide⟩
end Go.Proofs.YtbiiehobfnbloaaGreatDoor.LnP
