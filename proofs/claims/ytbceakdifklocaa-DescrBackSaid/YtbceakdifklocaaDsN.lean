/- descr.ReadSlice, behind its first tests. -/
import Derived.Test.YtbceakdifklocaaDsM
import Derived.Test.YtbceakdifklocaaRg
import Derived.Test.YtbceakdifklocaaDsL
namespace Go.Proofs.Ytbceakdifklocaa.DsN
open Go.RowKit Go.Proofs.Ytbceakdifklocaa.Q Go.Proofs.Ytbceakdifklocaa.Mem Go.Proofs.Ytbceakdifklocaa.DsA Go.Proofs.Ytbceakdifklocaa.DsB Go.Proofs.Ytbceakdifklocaa.DsC Go.Proofs.Ytbceakdifklocaa.DsD Go.Proofs.Ytbceakdifklocaa.DsE Go.Proofs.Ytbceakdifklocaa.DsApart Go.Proofs.Ytbceakdifklocaa.DsI Go.Proofs.Ytbceakdifklocaa.DsJ Go.Proofs.Ytbceakdifklocaa.DsK Go.Proofs.Ytbceakdifklocaa.DsL Go.Proofs.Ytbceakdifklocaa.Rg

set_option maxRecDepth 100000
/-- the bits of a byte -/
theorem and_byte (a : Nat) (m : Nat) (h : a < 256) (hm : m < 256) : bits .and .i64 (a : Int) (m : Int) = ((a &&& m : Nat) : Int) :=
  (bits_nat .i64 8 (by decide) (fun n h1 h2 => by rw [IntKind.wrap_i64]; omega) a m (by omega) (by omega)).1
theorem byte_bits (a : Int) (h : 0 ≤ a ∧ a ≤ 255) : (bits .and .i64 a 128 != 0) = decide (a / 128 = 1) ∧ (bits .and .i64 a 32 != 0) = decide (a / 32 % 2 = 1) ∧ bits .and .i64 a 7 = a % 8 ∧ bits .and .i64 a 15 = a % 16 := by
  obtain ⟨n, rfl⟩ : ∃ n : Nat, a = n := ⟨a.toNat, by omega⟩
  have hn : n < 256 := by omega
  clear h
  have key : ∀ m : Fin 256, (m.val &&& 128 = 128 * (m.val / 128)) ∧ (m.val &&& 32 = 32 * (m.val / 32 % 2)) ∧ (m.val &&& 7 = m.val % 8) ∧ (m.val &&& 15 = m.val % 16) := by decide +kernel
  obtain ⟨k1, k2, k3, k4⟩ := key ⟨n, hn⟩
  dsimp only at k1 k2 k3 k4
  have e1 := and_byte n 128 hn (by decide)
  have e2 := and_byte n 32 hn (by decide)
  have e3 := and_byte n 7 hn (by decide)
  have e4 := and_byte n 15 hn (by decide)
  rw [k1] at e1
  rw [k2] at e2
  rw [k3] at e3
  rw [k4] at e4
  refine ⟨?_, ?_, by rw [show (7 : Int) = ((7 : Nat) : Int) from rfl, e3]; omega, by rw [show (15 : Int) = ((15 : Nat) : Int) from rfl, e4]; omega⟩
  · rw [show (128 : Int) = ((128 : Nat) : Int) from rfl, e1]
    by_cases h1 : n / 128 = 1
    · simp [h1]; omega
    · have h0 : n / 128 = 0 := by omega
      simp [h0]; omega
  · rw [show (32 : Int) = ((32 : Nat) : Int) from rfl, e2]
    by_cases h1 : n / 32 % 2 = 1
    · simp [h1]; omega
    · have h0 : n / 32 % 2 = 0 := by omega
      simp [h0]; omega
set_option maxHeartbeats 2000000 in
theorem read_go (d : Dc) (w : World) (h : ¬ d.tag ≠ 119) (h2 : ¬ d.body.size < 3) :
    Calls Try.prog 14 #[.agg #[.int .i64 d.tag, .string d.body]] w fun e w' => e = .returned (.tuple #[.agg (rdS d).vals, .int .i64 (rdE d)]) ∧ Below w.heap.size w w' := by
  have t1 : (d.tag != 119) = false := by simpa using h
  have t2 : decide ((d.body.size : Int) < 3) = false := by simp; omega
  have i0 : ∀ V : World, (Instr.index 9 (.string d.body) (.int .i64 0)).run Try.prog V = .ok (.int .u8 (at' d.body 0)) V := fun V => idx_at d.body 0 (by omega) V
  have i1 : ∀ V : World, (Instr.index 9 (.string d.body) (.int .i64 1)).run Try.prog V = .ok (.int .u8 (at' d.body 1)) V := fun V => idx_at d.body 1 (by omega) V
  have i2 : ∀ V : World, (Instr.index 9 (.string d.body) (.int .i64 2)).run Try.prog V = .ok (.int .u8 (at' d.body 2)) V := fun V => idx_at d.body 2 (by omega) V
  have hb : Blk ((w.alloc (.cells #[.int .i64 d.tag, .string d.body] 30)).alloc (.cells zeroSl.vals 23)) w.heap.size 30 #[.int .i64 d.tag, .string d.body] := Blk.alloc (Blk.new w _ _) _
  have hd : Blk ((w.alloc (.cells #[.int .i64 d.tag, .string d.body] 30)).alloc (.cells zeroSl.vals 23)) (w.heap.size + 1) 23 zeroSl.vals := Blk.newAt _ _ _ (by simp)
  have hbe := alloc2 w (.cells #[.int .i64 d.tag, .string d.body] 30) (.cells zeroSl.vals 23)
  have hz : zeroSl.vals = #[.bool false, .bool false, .int .i64 0, .int .i64 0, .int .i64 0, .int .i64 0, .string { data := #[] }] := rfl
  rw [hz] at hb hd hbe
  have f0 := Blk.cell hb 0 (v := .int .i64 d.tag) rfl
  have f1 := Blk.cell hb 1 (v := .string d.body) rfl
  have hl1 := Blk.lt hb
  obtain ⟨m1, m2, m3, _⟩ := byte_bits _ (at_range d.body 0)
  obtain ⟨_, _, _, m4⟩ := byte_bits _ (at_range d.body 2)
  have r0 := at_range d.body 0
  have r1 := at_range d.body 1
  have r2 := at_range d.body 2
  have hS : rd d.body = ⟨decide (at' d.body 0 / 128 = 1), decide (at' d.body 0 / 32 % 2 = 1), 256 * (at' d.body 0 % 8 + 1), at' d.body 1, at' d.body 2 / 16, at' d.body 2 % 16, d.body.extract 3 d.body.size⟩ := rfl
  obtain ⟨a, ha⟩ : ∃ a, at' d.body 0 = a := ⟨_, rfl⟩
  obtain ⟨b, hbb⟩ : ∃ b, at' d.body 1 = b := ⟨_, rfl⟩
  obtain ⟨c, hc⟩ : ∃ c, at' d.body 2 = c := ⟨_, rfl⟩
  rw [ha] at i0 r0 m1 m2 m3
  rw [hbb] at i1 r1
  rw [hc] at i2 r2 m4
  rw [ha, hbb, hc] at hS
  have q1 : IntKind.i64.wrap a = a := by rw [IntKind.wrap_i64]; omega
  have q2 : IntKind.i64.wrap b = b := by rw [IntKind.wrap_i64]; omega
  have q3 : IntKind.i64.wrap c = c := by rw [IntKind.wrap_i64]; omega
  have p5 : IntKind.i64.wrap (a % 8 + 1) = a % 8 + 1 := by rw [IntKind.wrap_i64]; omega
  have p6 : IntKind.i64.wrap (256 * (a % 8 + 1)) = 256 * (a % 8 + 1) := by rw [IntKind.wrap_i64]; omega
  have hs3 : (3 : Int) ≤ d.body.size := by omega
  have HD := Lib.hid hd
  have HBB := Lib.hid hb
  have HBE := Lib.hid hbe
  have HS := Lib.hid hS
  have HR := Lib.hid (And.intro r0 (And.intro r1 r2))
  have HH := Lib.hid (And.intro h h2)
  clear h h2 ha hbb hc hd hb hbe hz hS r0 r1 r2
  go_enter Try.func14, Try.ntmps14
  go_wp2_with fail
  have f1 := fun p => Blk.cell (blk_ext HBB.out p) 1 (v := .string d.body) rfl
  clear f0 t1 t2
  refine Go.Proofs.Ytbceakdifklocaa.Rg.region_new [(28, ⟨fun _ => True, fun v W => ∃ g, v = .pointer (some ⟨g, 0, none⟩) ∧ w.heap.size + 2 ≤ g ∧ Blk W g 23 #[.bool false, .bool false, .int .i64 0, .int .i64 0, .int .i64 0, .int .i64 0, .string { data := #[] }]⟩)] 29 (by kernel_rfl) (by kernel_rfl) (by kernel_rfl) (lk_cons ⟨undef, trivial⟩ lk_nil) (lk_cons (fun v w w' ⟨g, h1, h2, h3⟩ hle => ⟨g, h1, h2, Blk.below h3 (le_below hle) (Blk.lt h3)⟩) lk_nil) ?_
  intro σ hσ
  simp only [List.take_succ_cons, List.take_zero, List.drop_succ_cons, List.drop_zero]
  refine Go.Proofs.Ytbceakdifklocaa.Rg.wpN_take 28 (by kernel_rfl) (by kernel_rfl) (by kernel_rfl) ?_
  simp only [List.take_succ_cons, List.take_zero, List.drop_succ_cons, List.drop_zero]
  repeat (go_big_quiet_step (fail))
  refine wpQuiet_nil ?_
  refine Go.Proofs.Ytbceakdifklocaa.Rg.wpN_sp _ rfl (by kernel_rfl) (Go.Proofs.Ytbceakdifklocaa.Rg.spAt_alloc #[.bool false, .bool false, .int .i64 0, .int .i64 0, .int .i64 0, .int .i64 0, .string { data := #[] }] (fun _ => rfl) (fun _ => trivial) (fun V hV => ⟨_, rfl, by have := (le_below hV).size; simpa using this, Blk.new _ _ _⟩)) ?_
  simp only [Act.put, List.setIfInBounds_toArray, List.set_cons_zero, List.set_cons_succ]
  refine wpN_nil ?_
  rintro w9 ⟨pq, rfl⟩ hp
  obtain ⟨g, hg, hgl, hgb⟩ := hp 28 _ rfl
  rw [hg]
  refine wpList_store_blk (cs' := #[.bool (decide (a / 128 = 1)), .bool (decide (a / 32 % 2 = 1)), .int .i64 (256 * (a % 8 + 1)), .int .i64 b, .int .i64 (c / 16), .int .i64 (c % 16), .string (d.body.extract 3 d.body.size)]) rfl 23 _ _ rfl rfl rfl hgb rfl rfl (by kernel_rfl) (by kernel_rfl) ?_
  intro V hV hgr hsz
  have hBB := Blk.grown (blk_ext HBB.out pq) hgr (by simp; omega)
  have hDD := Blk.grown (blk_ext HD.out pq) hgr (by simp; omega)
  have hE : Below w.heap.size w V := HBE.out.trans (((below_ext _ pq).mono HBE.out.size).trans (below_of_only hgr (by simp only [ext, Array.size_append, World.size_alloc]; omega) (fun k hk => by injection hk with hk; omega)))
  have hsz2 : w.heap.size + 2 ≤ V.heap.size := by rw [hsz]; simp only [ext, Array.size_append, World.size_alloc]; omega
  have hvals : #[.bool (decide (a / 128 = 1)), .bool (decide (a / 32 % 2 = 1)), .int .i64 (256 * (a % 8 + 1)), .int .i64 b, .int .i64 (c / 16), .int .i64 (c % 16), .string (d.body.extract 3 d.body.size)] = (rd d.body).vals := by rw [HS.out]; rfl
  have HV := Lib.hid hvals
  have c0 := Blk.cell (hV) 0 (v := .bool (decide (a / 128 = 1))) rfl
  have c1 := Blk.cell (hV) 1 (v := .bool (decide (a / 32 % 2 = 1))) rfl
  have c2 := Blk.cell (hV) 2 (v := .int .i64 (256 * (a % 8 + 1))) rfl
  have c3 := Blk.cell (hV) 3 (v := .int .i64 b) rfl
  have c4 := Blk.cell (hV) 4 (v := .int .i64 (c / 16)) rfl
  have c5 := Blk.cell (hV) 5 (v := .int .i64 (c % 16)) rfl
  have c6 := Blk.cell (hV) 6 (v := .string (d.body.extract 3 d.body.size)) rfl
  have km := fun W => make_any (rd d.body) W
  rw [← hvals] at km
  have hlt := Blk.lt hV
  clear hgr hsz hp hσ hg f1 i0 i1 i2 m1 m2 m3 m4 q1 q2 q3 p5 p6 hs3 HBB HD HBE HR hl1 hvals
  go_wp2_with fail
  (with_reducible refine (km _).mono ?_); rintro e W1 ⟨rfl, hb1⟩
  have hV1 := Blk.below hV hb1 hlt
  have hBB1 := Blk.below hBB hb1 (Blk.lt hBB)
  have hDD1 := Blk.below hDD hb1 (Blk.lt hDD)
  have hE1 := hE.trans (hb1.mono hE.size)
  have hlW : w.heap.size < W1.heap.size := Blk.lt hBB1
  have hlD : w.heap.size + 1 < W1.heap.size := Blk.lt hDD1
  have hlg : g < W1.heap.size := Blk.lt hV1
  clear km c0 c1 c2 c3 c4 c5 c6 hV hBB hDD hE hb1 hlt hgb hgl
  have k0 := Blk.cell (hBB1) 0 (v := .int .i64 d.tag) rfl
  have k1 := Blk.cell (hBB1) 1 (v := .string d.body) rfl
  have z0 := Blk.cell (hDD1) 0 (v := .bool false) rfl
  have z1 := Blk.cell (hDD1) 1 (v := .bool false) rfl
  have z2 := Blk.cell (hDD1) 2 (v := .int .i64 0) rfl
  have z3 := Blk.cell (hDD1) 3 (v := .int .i64 0) rfl
  have z4 := Blk.cell (hDD1) 4 (v := .int .i64 0) rfl
  have z5 := Blk.cell (hDD1) 5 (v := .int .i64 0) rfl
  have z6 := Blk.cell (hDD1) 6 (v := .string { data := #[] }) rfl
  have zf0 := Blk.frozen (hDD1) 0
  have zf1 := Blk.frozen (hDD1) 1
  have zf2 := Blk.frozen (hDD1) 2
  have zf3 := Blk.frozen (hDD1) 3
  have zf4 := Blk.frozen (hDD1) 4
  have zf5 := Blk.frozen (hDD1) 5
  have zf6 := Blk.frozen (hDD1) 6
  have HDD := Lib.hid hDD1
  have HEE := Lib.hid hE1
  obtain ⟨M, hM⟩ : ∃ M, (rd d.body).makeE = M := ⟨_, rfl⟩
  obtain ⟨D, hD⟩ : ∃ D, slD (rd d.body) = D := ⟨_, rfl⟩
  rw [hM, hD]
  have hq : ∀ V : World, (Op.equalIn 10000 30 (.agg #[.int .i64 D.tag, .string D.body]) (.agg #[.int .i64 d.tag, .string d.body])).run Try.prog V = .ok (decide (D = d)) V := fun V => eqD D d V
  by_cases hE : rdE d = 0
  · obtain ⟨e1, e2⟩ := rd_make d hE
    rw [hM] at e1
    rw [hD] at e2
    subst e1
    have e3 : decide (D = d) = true := by simpa using e2
    rw [e3] at hq
    have hR : (rdS d) = rd d.body := by simp [rdS, hE]
    have HRES := Lib.hid (show Value.tuple #[.agg #[.bool (decide (a / 128 = 1)), .bool (decide (a / 32 % 2 = 1)), .int .i64 (256 * (a % 8 + 1)), .int .i64 b, .int .i64 (c / 16), .int .i64 (c % 16), .string (d.body.extract 3 d.body.size)], .int .i64 0] = .tuple #[.agg (rdS d).vals, .int .i64 (rdE d)] by rw [hR, hE, HV.out])
    have c0 := Blk.cell (hV1) 0 (v := .bool (decide (a / 128 = 1))) rfl
    have c1 := Blk.cell (hV1) 1 (v := .bool (decide (a / 32 % 2 = 1))) rfl
    have c2 := Blk.cell (hV1) 2 (v := .int .i64 (256 * (a % 8 + 1))) rfl
    have c3 := Blk.cell (hV1) 3 (v := .int .i64 b) rfl
    have c4 := Blk.cell (hV1) 4 (v := .int .i64 (c / 16)) rfl
    have c5 := Blk.cell (hV1) 5 (v := .int .i64 (c % 16)) rfl
    have c6 := Blk.cell (hV1) 6 (v := .string (d.body.extract 3 d.body.size)) rfl
    clear hM hD e2 e3 hR hE hBB1 hDD1 hV1 hE1
    go_wp2_with fail
    obtain ⟨hS0, hE0⟩ := row7 (v0 := (.bool (decide (a / 128 = 1)))) (v1 := (.bool (decide (a / 32 % 2 = 1)))) (v2 := (.int .i64 (256 * (a % 8 + 1)))) (v3 := (.int .i64 b)) (v4 := (.int .i64 (c / 16))) (v5 := (.int .i64 (c % 16))) (v6 := (.string (d.body.extract 3 d.body.size))) HDD.out HEE.out (by omega)
    have hS := Blk.alloc hS0 (.cells #[.int .i64 D.tag, .string D.body] 30)
    have hEnd := hE0.alloc hE0.size (.cells #[.int .i64 D.tag, .string D.body] 30)
    exact bodyPost_ret (v := .tuple #[.agg #[(.bool (decide (a / 128 = 1))), (.bool (decide (a / 32 % 2 = 1))), (.int .i64 (256 * (a % 8 + 1))), (.int .i64 b), (.int .i64 (c / 16)), (.int .i64 (c % 16)), (.string (d.body.extract 3 d.body.size))], .int .i64 0]) (by simp [results, Try.results14, go_sem, Blk.cell hS 0 (v := (.bool (decide (a / 128 = 1)))) rfl, Blk.cell hS 1 (v := (.bool (decide (a / 32 % 2 = 1)))) rfl, Blk.cell hS 2 (v := (.int .i64 (256 * (a % 8 + 1)))) rfl, Blk.cell hS 3 (v := (.int .i64 b)) rfl, Blk.cell hS 4 (v := (.int .i64 (c / 16))) rfl, Blk.cell hS 5 (v := (.int .i64 (c % 16))) rfl, Blk.cell hS 6 (v := (.string (d.body.extract 3 d.body.size))) rfl]) rfl ⟨congrArg Ending.returned HRES.out, hEnd⟩
  · have hb3 : bad d.body = true := by
      cases hb : bad d.body with
      | true => rfl
      | false => exact absurd (show rdE d = 0 by simp [rdE, HH.out.1, HH.out.2, hb]) hE
    have hE12 : rdE d = 12 := by simp [rdE, HH.out.1, HH.out.2, hb3]
    have hno := rd_other d HH.out.2 hb3
    have hR : (rdS d) = zeroSl := by simp [rdS, hE]
    have HRES := Lib.hid (show Value.tuple #[.agg #[.bool false, .bool false, .int .i64 0, .int .i64 0, .int .i64 0, .int .i64 0, .string { data := #[] }], .int .i64 12] = .tuple #[.agg (rdS d).vals, .int .i64 (rdE d)] by rw [hR, hE12]; rfl)
    by_cases hM0 : M = 0
    · subst hM0
      have e3 : decide (D = d) = false := by simpa using fun e => hno ⟨hM, hD.trans e⟩
      rw [e3] at hq
      clear hM hD e3 hR hE hBB1 hDD1 hV1 hE1 hno hE12 hb3
      go_wp2_with fail
      obtain ⟨hS0, hE0⟩ := row7 (v0 := .bool false) (v1 := .bool false) (v2 := .int .i64 0) (v3 := .int .i64 0) (v4 := .int .i64 0) (v5 := .int .i64 0) (v6 := .string { data := #[] }) HDD.out HEE.out (by omega)
      have hS := Blk.alloc hS0 (.cells #[.int .i64 D.tag, .string D.body] 30)
      have hEnd := hE0.alloc hE0.size (.cells #[.int .i64 D.tag, .string D.body] 30)
      exact bodyPost_ret (v := .tuple #[.agg #[.bool false, .bool false, .int .i64 0, .int .i64 0, .int .i64 0, .int .i64 0, .string { data := #[] }], .int .i64 12]) (by simp [results, Try.results14, go_sem, Blk.cell hS 0 (v := .bool false) rfl, Blk.cell hS 1 (v := .bool false) rfl, Blk.cell hS 2 (v := .int .i64 0) rfl, Blk.cell hS 3 (v := .int .i64 0) rfl, Blk.cell hS 4 (v := .int .i64 0) rfl, Blk.cell hS 5 (v := .int .i64 0) rfl, Blk.cell hS 6 (v := .string { data := #[] }) rfl]) rfl ⟨congrArg Ending.returned HRES.out, hEnd⟩
    · have t5 : (M != 0) = true := by simpa using hM0
      clear hM hD hR hE hBB1 hDD1 hV1 hE1 hno hM0 hE12 hb3
      go_wp2_with fail
      obtain ⟨hS0, hE0⟩ := row7 (v0 := .bool false) (v1 := .bool false) (v2 := .int .i64 0) (v3 := .int .i64 0) (v4 := .int .i64 0) (v5 := .int .i64 0) (v6 := .string { data := #[] }) HDD.out HEE.out (by omega)
      have hS := Blk.alloc hS0 (.cells #[.int .i64 D.tag, .string D.body] 30)
      have hEnd := hE0.alloc hE0.size (.cells #[.int .i64 D.tag, .string D.body] 30)
      exact bodyPost_ret (v := .tuple #[.agg #[.bool false, .bool false, .int .i64 0, .int .i64 0, .int .i64 0, .int .i64 0, .string { data := #[] }], .int .i64 12]) (by simp [results, Try.results14, go_sem, Blk.cell hS 0 (v := .bool false) rfl, Blk.cell hS 1 (v := .bool false) rfl, Blk.cell hS 2 (v := .int .i64 0) rfl, Blk.cell hS 3 (v := .int .i64 0) rfl, Blk.cell hS 4 (v := .int .i64 0) rfl, Blk.cell hS 5 (v := .int .i64 0) rfl, Blk.cell hS 6 (v := .string { data := #[] }) rfl]) rfl ⟨congrArg Ending.returned HRES.out, hEnd⟩
end Go.Proofs.Ytbceakdifklocaa.DsN
