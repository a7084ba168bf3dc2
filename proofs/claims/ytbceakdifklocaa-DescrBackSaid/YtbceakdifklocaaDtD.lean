/- The document's ReadTargets; 'copy' of the beginning of a string. -/
import Derived.Test.YtbceakdifklocaaDtC
import Derived.Lib.LazyBuf
namespace Go.Proofs.Ytbceakdifklocaa.DtD
open Go.RowKit Go.Proofs.Ytbceakdifklocaa.Q Go.Proofs.Ytbceakdifklocaa.Mem Go.Proofs.Ytbceakdifklocaa.DsA Go.Proofs.Ytbceakdifklocaa.DsB Go.Proofs.Ytbceakdifklocaa.DsC Go.Proofs.Ytbceakdifklocaa.DsD Go.Proofs.Ytbceakdifklocaa.DsE Go.Proofs.Ytbceakdifklocaa.DsF Go.Proofs.Ytbceakdifklocaa.DsI Go.Proofs.Ytbceakdifklocaa.DsK Go.Proofs.Ytbceakdifklocaa.DsQ Go.Proofs.Ytbceakdifklocaa.DsY Go.Proofs.Ytbceakdifklocaa.DtB Go.Proofs.Ytbceakdifklocaa.Rg Go.Proofs.Ytbceakdifklocaa.Ap

/-- 'copy(dst, s)', s a string no shorter than dst: dst is filled with its first bytes -/
theorem run_copy_more {P : Program} (w : World) (dT sT ty elem : TypeId) (b o dLen dCap : Nat) (t : ByteArray)
    (hu : P.underlying dT = some (.slice elem)) (hz : ∀ w, (Go.sizeOf elem).run P w = .ok 1 w) (hle : dLen ≤ t.size)
    (hc : ∀ j, j < dLen → (w.cell? ⟨b, o + j, none⟩).isSome = true) (hf : ∀ j, j < dLen → w.frozen? ⟨b, o + j, none⟩ = false) :
    (Builtin.copy_ #[dT, sT] ty #[.slice (some ⟨b, o, none⟩) dLen dCap, .string t]).run P w = .ok (goInt dLen) (w.setCells b o ((t.data.toList.map fun x => Value.int .u8 (x.toNat : Int)).take dLen)) := by
  have hmin : Nat.min t.size dLen = dLen := Nat.min_eq_right hle
  have hl : ((t.data.toList.map fun x => Value.int .u8 (x.toNat : Int)).take dLen).length = dLen := by
    rw [List.length_take, List.length_map, show t.data.toList.length = t.size from Array.length_toList]; omega
  have hst := run_storeCells_cells (P := P) b o ((t.data.toList.map fun x => Value.int .u8 (x.toNat : Int)).take dLen) 0 w (by rw [hl]; simpa using hc) (by rw [hl]; simpa using hf) (by
    intro v hv
    obtain ⟨x, _, rfl⟩ := List.mem_map.1 (List.mem_of_mem_take hv)
    rfl)
  simp [Builtin.copy_, run_underlying hu, Builtin.lenOf, Builtin.firstCells, hz, hmin]
  rw [hst]
  rfl

def rtBad (s : ByteArray) : Bool := (List.range (s.size / 5)).any fun i => decide (32 < at' s (5 * i + 4))
def rtE (d : Dc) : Int := if d.tag ≠ 15 then 14 else if d.body.size % 5 ≠ 0 then 10 else if rtBad d.body || decide (51 < d.body.size / 5) then 12 else 0
def rtN (d : Dc) : Nat := if rtE d = 0 then d.body.size / 5 else 0
set_option maxRecDepth 100000
set_option maxHeartbeats 1600000 in
theorem rrt_any (d : Dc) (w : World) (hs : d.body.size ≤ 1000000) : Calls Try.prog 31 #[.agg #[.int .i64 d.tag, .string d.body]] w fun e w' => e = .returned (.tuple #[.int .i64 (rtN d : Nat), .int .i64 (rtE d)]) ∧ Below w.heap.size w w' := by
  obtain ⟨R, hR⟩ : ∃ R : Ending → World → Prop, R = (fun e w' => e = .returned (.tuple #[.int .i64 (rtN d : Nat), .int .i64 (rtE d)]) ∧ Below w.heap.size w w') := ⟨_, rfl⟩
  rw [← hR]
  have HR := Lib.hid hR
  have HB := Lib.hid (bk1 w 35 #[.int .i64 d.tag, .string d.body])
  clear hR
  by_cases h1 : d.tag ≠ 15
  · have hE : rtE d = 14 := by simp [rtE, h1]
    have HE := Lib.hid (And.intro hE (show rtN d = 0 by simp [rtN, hE]))
    have t1 : (d.tag != 15) = true := by simpa using h1
    clear h1 hE
    go_enter Try.func31, Try.ntmps31
    go_wp2_with fail
    rw [HR.out, HE.out.1, HE.out.2]
    exact ⟨rfl, HB.out.be⟩
  have t1 : (d.tag != 15) = false := by simpa using h1
  have e5 : ((d.body.size : Int).tmod 5) = ((d.body.size % 5 : Nat) : Int) := by rw [Int.tmod_eq_emod_of_nonneg (by omega)]; omega
  have e6 : ((d.body.size : Int) % 5) = ((d.body.size % 5 : Nat) : Int) := by omega
  have e7 : IntKind.i64.wrap ((d.body.size : Int).tmod 5) = ((d.body.size % 5 : Nat) : Int) := by rw [e5, IntKind.wrap_i64]; omega
  by_cases h2 : d.body.size % 5 ≠ 0
  · have hE : rtE d = 10 := by simp only [rtE, if_neg h1, if_pos h2]
    have HE := Lib.hid (And.intro hE (show rtN d = 0 by simp [rtN, hE]))
    have t2 : (((d.body.size % 5 : Nat) : Int) != 0) = true := by simpa using (fun h => h2 (by omega))
    obtain ⟨M, hM⟩ : ∃ M, ((d.body.size % 5 : Nat) : Int) = M := ⟨_, rfl⟩
    rw [hM] at e5 e6 e7 t2
    clear h1 hE h2 hM
    go_enter Try.func31, Try.ntmps31
    go_wp2_with fail
    rw [HR.out, HE.out.1, HE.out.2]
    exact ⟨rfl, HB.out.be⟩
  have h2' : d.body.size % 5 = 0 := by omega
  obtain ⟨N, hN⟩ : ∃ N, d.body.size / 5 = N := ⟨_, rfl⟩
  have hsz : d.body.size = 5 * N := by omega
  have t2 : ((0 : Int) != 0) = false := by decide
  rw [h2'] at e5 e6 e7
  have f1 : ((d.body.size : Int) / 5) = (N : Int) := by omega
  have f2 : ((d.body.size : Int).tdiv 5) = (N : Int) := by rw [Int.tdiv_eq_ediv_of_nonneg (by omega)]; omega
  have f3 : IntKind.i64.wrap ((d.body.size : Int).tdiv 5) = (N : Int) := by rw [f2, IntKind.wrap_i64]; omega
  have HE := Lib.hid (show rtE d = if rtBad d.body || decide (51 < N) then 12 else 0 by simp only [rtE, if_neg h1, if_neg h2, hN])
  have HN := Lib.hid (And.intro hN hsz)
  have x0 := Blk.cell (HB.out.nth 0 rfl) 0 (v := .int .i64 d.tag) rfl
  have x1 := Blk.cell (HB.out.nth 0 rfl) 1 (v := .string d.body) rfl
  have hN6 : N ≤ 1000000 := by omega
  clear h1 h2 h2' hN hsz
  go_enter Try.func31, Try.ntmps31
  go_wp2_with fail
  go_loop [5] (fun i => ∃ k : Nat, k ≤ N ∧ i = .int .i64 k ∧ Hid (∀ j, j < k → ¬ 32 < at' d.body (5 * j + 4))) (fun i => N - (intOf i).toNat)
  case atStart => exact ⟨0, by omega, rfl, Lib.hid (fun j hj => by omega)⟩
  case round =>
    obtain ⟨k, hk, rfl, hI⟩ := hrel
    by_cases hkl : k < N
    · have t0 : decide ((k : Int) < (N : Int)) = true := by simp; omega
      have q1 : IntKind.i64.wrap (5 * (k : Int)) = 5 * (k : Int) := by rw [IntKind.wrap_i64]; omega
      have q2 : IntKind.i64.wrap (5 * (k : Int) + 4) = 5 * (k : Int) + 4 := by rw [IntKind.wrap_i64]; omega
      obtain ⟨b, hb⟩ : ∃ b, at' d.body (5 * k + 4) = b := ⟨_, rfl⟩
      have hi : 5 * k + 4 < d.body.size := by rw [HN.out.2]; omega
      have i1 : ∀ V : World, (Instr.index 9 (.string d.body) (.int .i64 (5 * (k : Int) + 4))).run Try.prog V = .ok (.int .u8 b) V := fun V => by
        rw [← hb, show 5 * (k : Int) + 4 = ((5 * k + 4 : Nat) : Int) by omega]; exact idx_at d.body (5 * k + 4) hi V
      by_cases hbad : 32 < b
      · have t3 : decide (32 < b) = true := by simpa using hbad
        have hB : rtBad d.body = true := by
          unfold rtBad
          rw [List.any_eq_true]
          exact ⟨k, by rw [HN.out.1]; exact List.mem_range.2 hkl, by rw [hb]; exact t3⟩
        have HE2 := Lib.hid (show rtE d = 12 by rw [HE.out, hB]; rfl)
        have HN2 := Lib.hid (show rtN d = 0 by unfold rtN; rw [HE2.out]; rfl)
        clear hbad hB hb hI hi
        go_wp2_with fail
        rw [HR.out, HE2.out, HN2.out]
        exact ⟨rfl, HB.out.be⟩
      · have t3 : decide (32 < b) = false := by simpa using hbad
        have HI := Lib.hid (show ∀ j, j < k + 1 → ¬ 32 < at' d.body (5 * j + 4) from fun j hj => by
          rcases Nat.lt_or_ge j k with h | h
          · exact hI.out j h
          · obtain rfl : j = k := by omega
            rw [hb]; exact hbad)
        clear hbad hb hI hi
        go_wp2_with fail
        go_round
        case rel => exact ⟨k + 1, by omega, by go_num, HI⟩
        case measure => simp [intOf]; omega
    · obtain rfl : k = N := by omega
      have t0 : decide ((k : Int) < (k : Int)) = false := by simp
      have hB : rtBad d.body = false := by
        cases h : rtBad d.body with
        | false => rfl
        | true =>
          unfold rtBad at h
          rw [List.any_eq_true] at h
          obtain ⟨j, hj, hj2⟩ := h
          rw [HN.out.1] at hj
          exact absurd (by simpa using hj2) (hI.out j (List.mem_range.1 hj))
      by_cases hlong : 51 < k
      · have t3 : decide (51 < (k : Int)) = true := by simp; omega
        have HE2 := Lib.hid (show rtE d = 12 by rw [HE.out, hB]; simp [hlong])
        have HN2 := Lib.hid (show rtN d = 0 by unfold rtN; rw [HE2.out]; rfl)
        clear hlong hB hI
        go_wp2_with fail
        rw [HR.out, HE2.out, HN2.out]
        exact ⟨rfl, HB.out.be⟩
      · have t3 : decide (51 < (k : Int)) = false := by simp; omega
        have HE2 := Lib.hid (show rtE d = 0 by rw [HE.out, hB]; simp [hlong])
        have HN2 := Lib.hid (show rtN d = k by unfold rtN; rw [HE2.out, HN.out.1]; rfl)
        clear hlong hB hI
        go_wp2_with fail
        rw [HR.out, HE2.out, HN2.out]
        exact ⟨rfl, HB.out.be⟩
end Go.Proofs.Ytbceakdifklocaa.DtD
