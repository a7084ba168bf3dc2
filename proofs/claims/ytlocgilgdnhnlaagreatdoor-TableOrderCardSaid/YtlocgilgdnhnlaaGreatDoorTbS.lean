/- table: Clear. -/
import Derived.Test.YtlocgilgdnhnlaaGreatDoorTbR
namespace Go.Proofs.YtlocgilgdnhnlaaGreatDoor.TbS
open Go Go.RowKit Go.Proofs.YtlocgilgdnhnlaaGreatDoor.Q Go.Proofs.YtlocgilgdnhnlaaGreatDoor.Mem Go.Proofs.YtlocgilgdnhnlaaGreatDoor.Rg Go.Proofs.YtlocgilgdnhnlaaGreatDoor.Ap Go.Proofs.YtlocgilgdnhnlaaGreatDoor.ApG Go.Proofs.YtlocgilgdnhnlaaGreatDoor.St Go.Proofs.YtlocgilgdnhnlaaGreatDoor.BiW Go.Proofs.YtlocgilgdnhnlaaGreatDoor.Tab Go.Proofs.YtlocgilgdnhnlaaGreatDoor.TlS Go.Proofs.YtlocgilgdnhnlaaGreatDoor.TbM Go.Proofs.YtlocgilgdnhnlaaGreatDoor.TbN Go.Proofs.YtlocgilgdnhnlaaGreatDoor.TbO Go.Proofs.YtlocgilgdnhnlaaGreatDoor.TbP

set_option maxRecDepth 100000
theorem clear_run (w : World) (g R : Nat) (f : Nat → Value) (ty : TypeId) (hF : Fm w g 64 (R * 510) f) (hR : 0 < R) :
    ∃ w1, (Builtin.clear_ #[58] ty #[.slice (some ⟨g, 0, none⟩) R R]).run Tryz.prog w = .ok (.tuple #[]) w1 ∧ Fm w1 g 64 (R * 510) (rowF (emptyT R)) ∧ Kept (· = g) w w1 := by
  cases hi : Tryz.prog.info? 64 with
  | none => have h := rows_info; rw [hi] at h; cases h
  | some i =>
    have h := rows_info
    rw [hi] at h
    simp only [Option.map_some, Option.some.injEq, Prod.mk.injEq] at h
    obtain ⟨h1, h2, h3⟩ := h
    have hz : zrow.cells = Array.replicate 255 (Value.int .u8 0) ++ Array.replicate 255 (Value.bool false) := rfl
    obtain ⟨z, hzz⟩ : ∃ z, zrow = z := ⟨_, rfl⟩
    rw [hzz] at h1 hz
    obtain ⟨Z, hZ⟩ : ∃ Z, Array.replicate 255 (Value.int .u8 0) ++ Array.replicate 255 (Value.bool false) = Z := ⟨_, rfl⟩
    have hzs : Z.size = 510 := by rw [← hZ]; simp
    have hza := zrow_at
    rw [hZ] at hz hza
    clear hZ hzz
    obtain ⟨V, hV⟩ : ∃ V, Builtin.zeroCells Z R = V := ⟨_, rfl⟩
    have hVs : V.size = R * 510 := by rw [← hV, size_zeroCells, hzs]
    have hVa : ∀ k, k < R * 510 → V[k]? = some (rowF (emptyT R) k) := fun k hk => by
      rw [← hV]
      unfold Builtin.zeroCells
      rw [Array.getElem?_map, Array.getElem?_range, hzs]
      simp only [hk, if_true, Option.map_some]
      congr 1
      rw [hza _ (Nat.mod_lt _ (by decide))]
      rfl
    have hone : ∀ v ∈ V.toList, v.oneCell' = true := fun v hv => by
      obtain ⟨k, hk, e⟩ := List.getElem_of_mem hv
      have hk' : k < R * 510 := by rw [← hVs]; simpa using hk
      have := hVa k hk'
      rw [← Array.getElem?_toList, List.getElem?_eq_getElem hk, e] at this
      injection this with this
      rw [this]
      unfold rowF
      split <;> rfl
    obtain ⟨cs, hc1, hc2, _⟩ := hF
    have hst := run_storeCells_at Tryz.prog g 0 64 V.toList 0 cs w hc1 (by simp [hVs, hc2]) hone
    refine ⟨w.setRow g (cs.toList.take (0 + 0) ++ V.toList ++ cs.toList.drop (0 + 0 + V.toList.length)).toArray, ?_, ?_, ?_⟩
    rotate_left
    · exact ⟨_, setRow_heap w g cs _ 64 (0, 0) hc1, by simp [hVs, hc2], fun k hk => by
        rw [← hVa k hk]
        simp [hVs]
        rw [List.getElem?_append_left (by simp [hVs]; exact hk), Array.getElem?_toList]⟩
    · exact ⟨rfl, rfl, rfl, by simp, fun j _ hj => setRow_other w g j _ hj⟩
    · cases R with
      | zero => omega
      | succ n =>
        simp [Builtin.clear_, run_underlying Tryz.underlying58, Sem.run_bind, zeroValue, typeInfo, hi, h1, hz, hV]
        simp at hst
        rw [hst]
        rfl
end Go.Proofs.YtlocgilgdnhnlaaGreatDoor.TbS
