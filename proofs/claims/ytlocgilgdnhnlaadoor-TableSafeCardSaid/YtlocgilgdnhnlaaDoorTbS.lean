/- table: Clear. -/
import Derived.Test.YtlocgilgdnhnlaaDoorTbR
namespace Go.Proofs.YtlocgilgdnhnlaaDoor.TbS
open Go Go.RowKit Go.Proofs.YtlocgilgdnhnlaaDoor.Q Go.Proofs.YtlocgilgdnhnlaaDoor.Mem Go.Proofs.YtlocgilgdnhnlaaDoor.Rg Go.Proofs.YtlocgilgdnhnlaaDoor.Ap Go.Proofs.YtlocgilgdnhnlaaDoor.ApG Go.Proofs.YtlocgilgdnhnlaaDoor.St Go.Proofs.YtlocgilgdnhnlaaDoor.BiW Go.Proofs.YtlocgilgdnhnlaaDoor.Tab Go.Proofs.YtlocgilgdnhnlaaDoor.TlS Go.Proofs.YtlocgilgdnhnlaaDoor.TbM Go.Proofs.YtlocgilgdnhnlaaDoor.TbN Go.Proofs.YtlocgilgdnhnlaaDoor.TbO Go.Proofs.YtlocgilgdnhnlaaDoor.TbP

set_option maxRecDepth 100000
theorem clear_run (w : World) (g R : Nat) (f : Nat → Value) (ty : TypeId) (hF : Fm w g 84 (R * 510) f) (hR : 0 < R) :
    ∃ w1, (Builtin.clear_ #[75] ty #[.slice (some ⟨g, 0, none⟩) R R]).run Tryd.prog w = .ok (.tuple #[]) w1 ∧ Fm w1 g 84 (R * 510) (rowF (emptyT R)) ∧ Kept (· = g) w w1 := by
  cases hi : Tryd.prog.info? 84 with
  | none => have h := rows_info; rw [hi] at h; cases h
  | some i =>
    have h := rows_info
    rw [hi] at h
    simp only [Option.map_some, Option.some.injEq, Prod.mk.injEq] at h
    obtain ⟨h1, h2, h3⟩ := h
    have hz : zrow.cells = Array.replicate 255 (Value.int .u8 0) ++ Array.replicate 255 (Value.bool false) := rfl
    obtain ⟨z, hzz⟩ : ∃ z, zrow = z := ⟨_, rfl⟩
    rw [hzz] at h1 hz
    obtain ⟨Z, hZ⟩ : ∃ Z, Array.replicate 255 (Value.int .u8 0) ++ Array.replicate 255 (Value.bool false) = Z := ⟨_, rfl⟩
    have hzs : Z.size = 510 := by rw [← hZ]; simp
    have hza := zrow_at
    rw [hZ] at hz hza
    clear hZ hzz
    obtain ⟨V, hV⟩ : ∃ V, Builtin.zeroCells Z R = V := ⟨_, rfl⟩
    have hVs : V.size = R * 510 := by rw [← hV, size_zeroCells, hzs]
    have hVa : ∀ k, k < R * 510 → V[k]? = some (rowF (emptyT R) k) := fun k hk => by
      rw [← hV]
      unfold Builtin.zeroCells
      rw [Array.getElem?_map, Array.getElem?_range, hzs]
      simp only [hk, if_true, Option.map_some]
      congr 1
      rw [hza _ (Nat.mod_lt _ (by decide))]
      rfl
    have hone : ∀ v ∈ V.toList, v.oneCell' = true := fun v hv => by
      obtain ⟨k, hk, e⟩ := List.getElem_of_mem hv
      have hk' : k < R * 510 := by rw [← hVs]; simpa using hk
      have := hVa k hk'
      rw [← Array.getElem?_toList, List.getElem?_eq_getElem hk, e] at this
      injection this with this
      rw [this]
      unfold rowF
      split <;> rfl
    obtain ⟨cs, hc1, hc2, _⟩ := hF
    have hst := run_storeCells_at Tryd.prog g 0 84 V.toList 0 cs w hc1 (by simp [hVs, hc2]) hone
    refine ⟨w.setRow g (cs.toList.take (0 + 0) ++ V.toList ++ cs.toList.drop (0 + 0 + V.toList.length)).toArray, ?_, ?_, ?_⟩
    rotate_left
    · exact ⟨_, setRow_heap w g cs _ 84 (0, 0) hc1, by simp [hVs, hc2], fun k hk => by
        rw [← hVa k hk]
        simp [hVs]
        rw [List.getElem?_append_left (by simp [hVs]; exact hk), Array.getElem?_toList]⟩
    · exact ⟨rfl, rfl, rfl, by simp, fun j _ hj => setRow_other w g j _ hj⟩
    · cases R with
      | zero => omega
      | succ n =>
        simp [Builtin.clear_, run_underlying Tryd.underlying75, Sem.run_bind, zeroValue, typeInfo, hi, h1, hz, hV]
        simp at hst
        rw [hst]
        rfl
theorem clear_any (w : World) (B gt gr : Nat) (v : Value) (S : Tb) (h : TbIn w B gt gr v S) (hok : Ok S) :
    Calls Tryd.prog 15 #[.pointer (some ⟨gt, 0, none⟩)] w fun e w' => e = .returned (.tuple #[]) ∧ TbIn w' B gt gr (.slice none 0 0) (emptyT S.R) ∧ Kept (foot gt gr v) w w' := by
  obtain ⟨w1, hr, hF1, hK1⟩ := clear_run w gr S.R _ 0 h.rows hok.R0
  have c0 := Blk.cell h.box 0 (v := .slice (some ⟨gr, 0, none⟩) S.R S.R) rfl
  have hx1 : Blk w1 gt 77 #[.slice (some ⟨gr, 0, none⟩) S.R S.R, v] := (hK1.block gt h.box.lt h.ne).trans h.box
  have c1 := Blk.cell hx1 1 (v := v) rfl
  have c2 := Blk.frozen hx1 1
  have HX := Lib.hid hx1
  go_enter Tryd.func15, Tryd.ntmps15
  go_wp2_with fail
  go_end0
  refine ⟨rfl, ⟨Blk.set_ HX.out 1 (.slice none 0 0), hF1.far (show gr ≠ gt from fun e => h.ne e.symm) _, World.ownsRow_nil _ _ _ _, h.ne, fun e => (by cases e), fun e => (by cases e), h.bt, h.br⟩, ?_⟩
  exact (hK1.mono (fun i _ e => Or.inr (Or.inl e))).trans (kept_set (F := foot gt gr v) (Or.inl rfl)) (fun _ _ h => h)
end Go.Proofs.YtlocgilgdnhnlaaDoor.TbS
