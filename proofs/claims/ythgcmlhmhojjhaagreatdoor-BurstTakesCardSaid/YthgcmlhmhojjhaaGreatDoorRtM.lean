/- The document's table in memory; New, lay, Put, Parity, Pad. -/
import Derived.Test.YthgcmlhmhojjhaaGreatDoorPkV
namespace Go.Proofs.YthgcmlhmhojjhaaGreatDoor.RtM
open Go Go.RowKit Go.Proofs.YthgcmlhmhojjhaaGreatDoor.Q Go.Proofs.YthgcmlhmhojjhaaGreatDoor.Mem Go.Proofs.YthgcmlhmhojjhaaGreatDoor.Rg Go.Proofs.YthgcmlhmhojjhaaGreatDoor.Ap Go.Proofs.YthgcmlhmhojjhaaGreatDoor.ApG Go.Proofs.YthgcmlhmhojjhaaGreatDoor.St Go.Proofs.YthgcmlhmhojjhaaGreatDoor.BiW Go.Proofs.YthgcmlhmhojjhaaGreatDoor.TlS Go.Proofs.YthgcmlhmhojjhaaGreatDoor.TbM Go.Proofs.YthgcmlhmhojjhaaGreatDoor.TbN Go.Proofs.YthgcmlhmhojjhaaGreatDoor.TbO Go.Proofs.YthgcmlhmhojjhaaGreatDoor.TbP Go.Proofs.YthgcmlhmhojjhaaGreatDoor.TbR

set_option maxRecDepth 100000
def xbox (S : Tb) (g1 g2 g3 : Nat) : Array Value := #[.int .i64 (S.R : Int), .slice (some ⟨g1, 0, none⟩) (255 * S.R) (255 * S.R), .slice (some ⟨g2, 0, none⟩) (255 * S.R) (255 * S.R), .slice (some ⟨g3, 0, none⟩) (191 * S.R) (191 * S.R)]
def feet (gx g1 g2 g3 i : Nat) : Prop := i = gx ∨ i = g1 ∨ i = g2 ∨ i = g3
section
variable {w w' : World} {B gx g1 g2 g3 : Nat} {S : Tb}
end
theorem mk_one {P : Program} (t e : TypeId) (z : Value) (bytes : Nat) (ht : P.underlying t = some (.slice e)) (hi : (P.info? e).map (fun i => (i.zero, i.size, i.bytes)) = some (some z, 1, bytes)) (hz : z.cells = #[z]) (n : Nat) (hn : bytes * n ≤ 281474976710656) (hn2 : n ≤ 1099511627776) (V : World) :
    (Instr.makeSlice t (.int .i64 (n : Int)) (.int .i64 (n : Int))).run P V = .ok (.slice (some ⟨V.heap.size, 0, none⟩) n n) (V.alloc (.cells (madeCells #[z] n) e)) := by
  cases h : P.info? e with
  | none => rw [h] at hi; cases hi
  | some i =>
    rw [h] at hi
    simp only [Option.map_some, Option.some.injEq, Prod.mk.injEq] at hi
    obtain ⟨h1, h2, h3⟩ := hi
    have hr := run_make (P := P) V t e i z ht h h1 .i64 .i64 n n (by omega) (Int.le_refl _) (by rw [h3]; omega) (by omega)
    rw [Int.toNat_natCast, h2, Nat.mul_one, hz] at hr
    exact hr
theorem fm_made (V : World) (g n : Nat) (e : TypeId) (z : Value) (h : Blk V g e (madeCells #[z] n)) : Fm V g e n (fun _ => z) :=
  ⟨_, h, size_madeCells _ _, fun i hi => by
    unfold madeCells
    rw [Array.getElem?_map, Array.getElem?_range]
    simp [hi, Nat.mod_one]⟩
end Go.Proofs.YthgcmlhmhojjhaaGreatDoor.RtM
