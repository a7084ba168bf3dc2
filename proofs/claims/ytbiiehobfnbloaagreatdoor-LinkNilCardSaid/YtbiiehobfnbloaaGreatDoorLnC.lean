/- link: may, Check. -/
import Derived.Test.YtbiiehobfnbloaaGreatDoorLnA
import Derived.Test.YtbiiehobfnbloaaGreatDoorLnP
import Derived.Test.YtbiiehobfnbloaaGreatDoorPkZ
import Derived.Deep.Cut
import Derived.Maps.OwnOps
import Derived.Maps.Views
namespace Go.Proofs.YtbiiehobfnbloaaGreatDoor.LnC
open Go Go.RowKit Go.Maps Go.Proofs.YtbiiehobfnbloaaGreatDoor.Q Go.Proofs.YtbiiehobfnbloaaGreatDoor.Mem Go.Proofs.YtbiiehobfnbloaaGreatDoor.Rg Go.Proofs.YtbiiehobfnbloaaGreatDoor.Ap Go.Proofs.YtbiiehobfnbloaaGreatDoor.Tab Go.Proofs.YtbiiehobfnbloaaGreatDoor.TlS Go.Proofs.YtbiiehobfnbloaaGreatDoor.FrA Go.Proofs.YtbiiehobfnbloaaGreatDoor.LnP Go.Proofs.YtbiiehobfnbloaaGreatDoor.LnA

set_option maxHeartbeats 1600000 in
theorem may_any (s : Sm) (w : World) (hT : Tab 1 w) : Calls Tryz.prog 104 #[.agg #[.int .i64 s.pid, .int .i64 s.mac, .int .i64 s.R, .int .i64 s.C, .int .i64 s.K]] w fun e w' => e = .returned (.bool (mayS s)) ∧ Below w.heap.size w w' := by
  obtain ⟨pid, mac, R, C, K⟩ := s
  have hbe := (Below.refl _ w).alloc (Nat.le_refl _) (.cells #[.int .i64 pid, .int .i64 mac, .int .i64 R, .int .i64 C, .int .i64 K] 77)
  have hB := Blk.new w 77 #[.int .i64 pid, .int .i64 mac, .int .i64 R, .int .i64 C, .int .i64 K]
  have c0 := Blk.cell (hB) 0 (v := .int .i64 pid) rfl
  have c1 := Blk.cell (hB) 1 (v := .int .i64 mac) rfl
  have c2 := Blk.cell (hB) 2 (v := .int .i64 R) rfl
  have c3 := Blk.cell (hB) 3 (v := .int .i64 C) rfl
  have c4 := Blk.cell (hB) 4 (v := .int .i64 K) rfl
  have kp := pid_any pid (w.alloc (.cells #[.int .i64 pid, .int .i64 mac, .int .i64 R, .int .i64 C, .int .i64 K] 77))
  have kc := FrA.check_any R C K (w.alloc (.cells #[.int .i64 pid, .int .i64 mac, .int .i64 R, .int .i64 C, .int .i64 K] 77)) (hT.be hbe)
  have HM : Hid (mayS ⟨pid, mac, R, C, K⟩ = (decide (1 ≤ pid ∧ pid ≤ 8190 ∧ 0 ≤ mac ∧ mac ≤ 65535) && okC R C K)) := Lib.hid rfl
  obtain ⟨Z, hZ⟩ : ∃ Z, mayS ⟨pid, mac, R, C, K⟩ = Z := ⟨_, rfl⟩
  obtain ⟨Y, hY⟩ : ∃ Y, okC R C K = Y := ⟨_, rfl⟩
  rw [hZ, hY] at HM
  rw [hZ]
  rw [hY] at kc
  clear hZ hY hT
  by_cases h1 : 1 ≤ pid ∧ pid ≤ 8190
  · rw [decide_eq_true (show 0 < pid by omega), decide_eq_true (show pid < 8191 by omega)] at kp
    by_cases h2 : 0 ≤ mac
    · by_cases h3 : mac ≤ 65535
      · replace HM : Hid (Z = Y) := Lib.hid (by rw [HM.out, decide_eq_true ⟨h1.1, h1.2, h2, h3⟩, Bool.true_and])
        cases Y with
        | true =>
          rw [if_pos rfl] at kc
          go_enter Tryz.func104, Tryz.ntmps104
          go_wp2_with fail
          (with_reducible refine (kp).mono ?_); rintro e1 W1 ⟨rfl, rfl⟩
          go_wp2_with fail
          (with_reducible refine (kc).mono ?_); rintro e1 W1 ⟨rfl, hb1⟩
          go_wp2_with fail
          go_ret
          exact ⟨by rw [HM.out]; rfl, hbe.trans (hb1.mono hbe.size)⟩
        | false =>
          rw [if_neg (by decide)] at kc
          go_enter Tryz.func104, Tryz.ntmps104
          go_wp2_with fail
          (with_reducible refine (kp).mono ?_); rintro e1 W1 ⟨rfl, rfl⟩
          go_wp2_with fail
          (with_reducible refine (kc).mono ?_); rintro e1 W1 ⟨rfl, hb1⟩
          go_wp2_with fail
          go_ret
          exact ⟨by rw [HM.out]; rfl, hbe.trans (hb1.mono hbe.size)⟩
      · replace HM : Hid (Z = false) := Lib.hid (by rw [HM.out, decide_eq_false (fun h => h3 h.2.2.2), Bool.false_and])
        go_enter Tryz.func104, Tryz.ntmps104
        go_wp2_with fail
        (with_reducible refine (kp).mono ?_); rintro e1 W1 ⟨rfl, rfl⟩
        go_wp2_with fail
        go_ret
        exact ⟨by rw [HM.out]; rfl, hbe⟩
    · replace HM : Hid (Z = false) := Lib.hid (by rw [HM.out, decide_eq_false (fun h => h2 h.2.2.1), Bool.false_and])
      go_enter Tryz.func104, Tryz.ntmps104
      go_wp2_with fail
      (with_reducible refine (kp).mono ?_); rintro e1 W1 ⟨rfl, rfl⟩
      go_wp2_with fail
      go_ret
      exact ⟨by rw [HM.out]; rfl, hbe⟩
  · have hp : (decide (0 < pid) && decide (pid < 8191)) = false := by
      by_cases h0 : 0 < pid
      · rw [decide_eq_true h0, decide_eq_false (by omega)]; rfl
      · rw [decide_eq_false h0]; rfl
    rw [hp] at kp
    replace HM : Hid (Z = false) := Lib.hid (by rw [HM.out, decide_eq_false (fun h => h1 ⟨h.1, h.2.1⟩), Bool.false_and])
    go_enter Tryz.func104, Tryz.ntmps104
    go_wp2_with fail
    (with_reducible refine (kp).mono ?_); rintro e1 W1 ⟨rfl, rfl⟩
    go_wp2_with fail
    go_ret
    exact ⟨by rw [HM.out]; rfl, hbe⟩

/-- which Pids are taken ahead of the stream q -/
def seenB (table : Int) (L : List Sm) (q : Nat) (x : Int) : Bool := x == table || (L.take q).any (fun s => s.pid == x)
theorem step_eq {table : Int} {L : List Sm} {q : Nat} {s : Sm} (h : L[q]? = some s) : stepB table L q = (mayS s && !seenB table L q s.pid) := by
  unfold stepB seenB
  rw [h]
  dsimp only
  congr 1
  rw [Bool.eq_iff_iff]
  simp
theorem seen_succ {table : Int} {L : List Sm} {q : Nat} {s : Sm} (h : L[q]? = some s) (x : Int) : seenB table L (q + 1) x = (seenB table L q x || s.pid == x) := by
  unfold seenB
  rw [List.take_add_one, h]
  simp [Bool.or_assoc]
structure Mp (w wr : World) (g : Nat) (table : Int) (L : List Sm) (q : Nat) : Prop where
  m : ∃ D : DataW Unit, wr.ownsMap Tryz.prog 3 (plainElem Tryz.prog 4) g (q + 1) D ∧ ∀ x, D.atKey (.int .i64 x) (.lit (.bool false)) = .lit (.bool (seenB table L q x))
  be : Below w.heap.size w wr
  gw : w.heap.size ≤ g
theorem Mp.below {w wr wr' : World} {g q : Nat} {table : Int} {L : List Sm} (h : Mp w wr g table L q) (hb : Below wr.heap.size wr wr') : Mp w wr' g table L q := by
  obtain ⟨⟨D, h2, h3⟩, h4, h5⟩ := h
  exact ⟨⟨D, h2.kept (only_of_below hb none) (by simp), h3⟩, h4.trans (hb.mono h4.size), h5⟩
theorem keyM : Keyed Tryz.prog 3 := int_keyed Tryz.underlying3
theorem zeroM (w : World) : (zeroValue 4).run Tryz.prog w = .ok (.bool false) w := by kernel_rfl
theorem bool_inv_any {P : Program} {e : TypeId} (he : P.underlying e = some .bool) {v : Value} {b : Bool} {ps : List MemPlace} (h : plainElem (H := Unit) P e v = some (.lit (.bool b), ps)) : v = .bool b := by
  unfold plainElem at h
  rw [he] at h
  cases v <;> simp at h
  rw [h.1]
theorem bool_inv {v : Value} {b : Bool} {ps : List MemPlace} (h : plainElem (H := Unit) Tryz.prog 4 v = some (.lit (.bool b), ps)) : v = .bool b := bool_inv_any Tryz.underlying4 h
theorem Mp.look {w wr : World} {g q : Nat} {table : Int} {L : List Sm} (h : Mp w wr g table L q) {x : Int} (hx : -9223372036854775808 ≤ x ∧ x ≤ 9223372036854775807) :
    (Instr.lookup 206 (.map (some g)) (.int .i64 x) false).run Tryz.prog wr = .ok (.bool (seenB table L q x)) wr := by
  obtain ⟨⟨D, h2, h3⟩, _, _⟩ := h
  obtain ⟨v, ps, hr, hv⟩ := h2.lookup keyM Tryz.underlying206 (zeroM _) (plainElem_bool Tryz.underlying4 false) (keyOf_int_mk Tryz.underlying3 (WalkArith.wf_i64 (by omega)))
  rw [h3] at hv
  rw [bool_inv hv] at hr
  exact hr
theorem Mp.put {w wr : World} {g q : Nat} {table : Int} {L : List Sm} (h : Mp w wr g table L q) {s : Sm} (hs : L[q]? = some s) (hq : q ≤ 100) (hx : -9223372036854775808 ≤ s.pid ∧ s.pid ≤ 9223372036854775807) :
    ∃ W, (Instr.mapUpdate 206 (.map (some g)) (.int .i64 s.pid) (.bool true)).run Tryz.prog wr = .ok () W ∧ Mp w W g table L (q + 1) := by
  obtain ⟨⟨D, h2, h3⟩, h4, h5⟩ := h
  obtain ⟨W, hr, ho, hg⟩ := h2.update keyM Tryz.underlying206 (by unfold maxLen; omega) (keyOf_int_mk Tryz.underlying3 (WalkArith.wf_i64 (by omega))) (plainElem_bool Tryz.underlying4 true)
  have hme : ∃ es, D = .map es := by obtain ⟨es, clock, h1, h2, h3, h4⟩ := h2; exact ⟨_, h4⟩
  refine ⟨W, hr, ⟨⟨_, ho, fun x => ?_⟩, h4.trans (below_of_only hg h4.size (fun k hk => by injection hk with hk; omega)), h5⟩⟩
  rw [seen_succ hs]
  by_cases e : x = s.pid
  · subst e
    rw [atKey_put_same hme (by trivial)]
    simp
  · rw [atKey_put_other (fun h => e (by injection h)), h3, show (s.pid == x) = false from beq_eq_false_iff_ne.2 (Ne.symm e), Bool.or_false]
theorem mp_new (w W : World) (table : Int) (L : List Sm) (hb : Below w.heap.size w W) (hx : -9223372036854775808 ≤ table ∧ table ≤ 9223372036854775807) :
    ∃ W2, (Instr.mapUpdate 206 (.map (some W.heap.size)) (.int .i64 table) (.bool true)).run Tryz.prog (W.alloc (.map #[] 0)) = .ok () W2 ∧ Mp w W2 W.heap.size table L 0 ∧ Below W.heap.size W W2 := by
  have h2 := World.ownsMap_made (H := Unit) W Tryz.prog 3 (plainElem Tryz.prog 4)
  obtain ⟨W2, hr, ho, hg⟩ := h2.update keyM Tryz.underlying206 (by unfold maxLen; omega) (keyOf_int_mk Tryz.underlying3 (WalkArith.wf_i64 (by omega))) (plainElem_bool Tryz.underlying4 true)
  have hs := hb.size
  refine ⟨W2, hr, ⟨⟨_, ho, fun x => ?_⟩, ((hb.alloc hs _).trans (below_of_only hg (by simp; omega) (fun k hk => by injection hk with hk; omega))), hs⟩, ((Below.refl _ _).alloc (Nat.le_refl _) _).trans (below_of_only hg (by simp) (fun k hk => by injection hk with hk; omega))⟩
  by_cases e : x = table
  · subst e
    rw [atKey_put_same ⟨_, rfl⟩ (by trivial)]
    simp [seenB]
  · rw [atKey_put_other (fun h => e (by injection h))]
    rw [show seenB table L 0 x = false from by unfold seenB; rw [beq_eq_false_iff_ne.2 e]; simp]
    rfl

set_option maxRecDepth 100000
set_option maxHeartbeats 3200000 in
theorem check_any (c : Cf) (a : Option Addr) (n cp : Nat) (L : List Sm) (w : World) (hT : Tab 1 w) (hn : L.length = n) (hl : n ≤ 1000) (hL : Seq enSm 5 w a L)
    (hu : -9223372036854775808 ≤ c.unit ∧ c.unit ≤ 9223372036854775807) (hg : -9223372036854775808 ≤ c.guard ∧ c.guard ≤ 9223372036854775807) (hm : -9223372036854775808 ≤ c.most ∧ c.most ≤ 9223372036854775807) (hp : -9223372036854775808 ≤ c.pat ∧ c.pat ≤ 9223372036854775807) :
    Calls Tryz.prog 49 #[.agg #[.int .i64 c.unit, .int .i64 c.guard, .int .i64 c.most, .int .i64 c.pat, .int .i64 c.gap, .int .i64 c.every, .int .i64 c.table, .slice a n cp]] w fun e w' => e = .returned (.int .i64 (chkL c L)) ∧ Below w.heap.size w w' := by
  have HX : Hid (chkL c L = if (mach c && rest c n && uptoB c.table L n) = true then 0 else 23) := Lib.hid (by unfold chkL okL; rw [hn])
  have HL := Lib.hid hL
  have HN := Lib.hid hn
  have HT := Lib.hid hT
  obtain ⟨X, hX⟩ : ∃ X, chkL c L = X := ⟨_, rfl⟩
  have kaC : ∀ W, Calls Tryz.prog 101 #[.agg #[.int .i64 c.unit, .int .i64 c.guard, .int .i64 c.most, .int .i64 c.pat]] W fun e w' => e = .returned (.int .i64 (if mach c then 0 else 23)) ∧ Below W.heap.size W w' := fun W =>
    (AwE.check_any c.unit c.guard c.most c.pat W hu hg hm hp).mono (fun e w' h => ⟨h.1, h.2 ▸ (Below.refl _ _).alloc (Nat.le_refl _) _⟩)
  rw [hX] at HX ⊢
  clear hX hL hn hT hu hg hm hp
  obtain ⟨M, hM⟩ : ∃ M, mach c = M := ⟨_, rfl⟩
  rw [hM] at kaC HX
  clear hM
  obtain ⟨unit, guard, most, pat, gap, every, table⟩ := c
  have hbe := (Below.refl _ w).alloc (Nat.le_refl _) (.cells #[.int .i64 unit, .int .i64 guard, .int .i64 most, .int .i64 pat, .int .i64 gap, .int .i64 every, .int .i64 table, .slice a n cp] 63)
  have hB := Blk.new w 63 #[.int .i64 unit, .int .i64 guard, .int .i64 most, .int .i64 pat, .int .i64 gap, .int .i64 every, .int .i64 table, .slice a n cp]
  have HB := Lib.hid hB
  have km := mach_any unit guard most pat gap every table (.slice a n cp) (w.alloc (.cells #[.int .i64 unit, .int .i64 guard, .int .i64 most, .int .i64 pat, .int .i64 gap, .int .i64 every, .int .i64 table, .slice a n cp] 63))
  have kp := fun W => pid_any table W
  dsimp only at kaC HX
  clear hB
  cases M with
  | false =>
    replace HX : Hid (X = 23) := Lib.hid (by rw [HX.out]; rfl)
    rw [if_neg (by decide)] at kaC
    go_enter Tryz.func49, Tryz.ntmps49
    go_wp2_with fail
    (with_reducible refine (km).mono ?_); rintro e1 W1 ⟨rfl, hb1⟩
    have hB1 := HB.out.below hb1 HB.out.lt
    have ka := kaC W1
    have d0 := Blk.cell (hB1) 0 (v := .int .i64 unit) rfl
    have d1 := Blk.cell (hB1) 1 (v := .int .i64 guard) rfl
    have d2 := Blk.cell (hB1) 2 (v := .int .i64 most) rfl
    have d3 := Blk.cell (hB1) 3 (v := .int .i64 pat) rfl
    have d4 := Blk.cell (hB1) 4 (v := .int .i64 gap) rfl
    have d5 := Blk.cell (hB1) 5 (v := .int .i64 every) rfl
    have d6 := Blk.cell (hB1) 6 (v := .int .i64 table) rfl
    have d7 := Blk.cell (hB1) 7 (v := .slice a n cp) rfl
    clear km
    go_wp2_with fail
    (with_reducible refine (ka).mono ?_); rintro e1 W2 ⟨rfl, hb2⟩
    have hB2 := hB1.below hb2 hB1.lt
    clear ka d0 d1 d2 d3 d4 d5 d6 d7 hB1
    have d0 := Blk.cell (hB2) 0 (v := .int .i64 unit) rfl
    have d1 := Blk.cell (hB2) 1 (v := .int .i64 guard) rfl
    have d2 := Blk.cell (hB2) 2 (v := .int .i64 most) rfl
    have d3 := Blk.cell (hB2) 3 (v := .int .i64 pat) rfl
    have d4 := Blk.cell (hB2) 4 (v := .int .i64 gap) rfl
    have d5 := Blk.cell (hB2) 5 (v := .int .i64 every) rfl
    have d6 := Blk.cell (hB2) 6 (v := .int .i64 table) rfl
    have d7 := Blk.cell (hB2) 7 (v := .slice a n cp) rfl
    have hbz := (hbe.trans (hb1.mono hbe.size)).trans (hb2.mono (hbe.trans (hb1.mono hbe.size)).size)
    clear hb1 hb2
    go_wp2_with fail
    go_ret
    exact ⟨by rw [HX.out]; rfl, hbz⟩
  | true =>
    rw [if_pos rfl] at kaC
    rw [Bool.true_and] at HX
    dsimp only
    by_cases h1 : 0 ≤ gap
    · by_cases h2 : gap ≤ 1048576
      · by_cases h3 : 1 ≤ every
        · by_cases h4 : every ≤ 1048576
          · by_cases h5 : 1 ≤ table ∧ table ≤ 8190
            · rw [decide_eq_true (show 0 < table by omega), decide_eq_true (show table < 8191 by omega)] at kp
              by_cases h6 : n = 0
              · have t6 : ((n : Int) == 0) = true := by rw [h6]; rfl
                have hr : rest ⟨unit, guard, most, pat, gap, every, table⟩ n = false := decide_eq_false (by dsimp only; omega)
                replace HX : Hid (X = 23) := Lib.hid (by rw [HX.out, hr]; rfl)
                clear h6 hr
                go_enter Tryz.func49, Tryz.ntmps49
                go_wp2_with fail
                (with_reducible refine (km).mono ?_); rintro e1 W1 ⟨rfl, hb1⟩
                have hB1 := HB.out.below hb1 HB.out.lt
                have ka := kaC W1
                have d0 := Blk.cell (hB1) 0 (v := .int .i64 unit) rfl
                have d1 := Blk.cell (hB1) 1 (v := .int .i64 guard) rfl
                have d2 := Blk.cell (hB1) 2 (v := .int .i64 most) rfl
                have d3 := Blk.cell (hB1) 3 (v := .int .i64 pat) rfl
                have d4 := Blk.cell (hB1) 4 (v := .int .i64 gap) rfl
                have d5 := Blk.cell (hB1) 5 (v := .int .i64 every) rfl
                have d6 := Blk.cell (hB1) 6 (v := .int .i64 table) rfl
                have d7 := Blk.cell (hB1) 7 (v := .slice a n cp) rfl
                clear km
                go_wp2_with fail
                (with_reducible refine (ka).mono ?_); rintro e1 W2 ⟨rfl, hb2⟩
                have hB2 := hB1.below hb2 hB1.lt
                clear ka d0 d1 d2 d3 d4 d5 d6 d7 hB1
                have d0 := Blk.cell (hB2) 0 (v := .int .i64 unit) rfl
                have d1 := Blk.cell (hB2) 1 (v := .int .i64 guard) rfl
                have d2 := Blk.cell (hB2) 2 (v := .int .i64 most) rfl
                have d3 := Blk.cell (hB2) 3 (v := .int .i64 pat) rfl
                have d4 := Blk.cell (hB2) 4 (v := .int .i64 gap) rfl
                have d5 := Blk.cell (hB2) 5 (v := .int .i64 every) rfl
                have d6 := Blk.cell (hB2) 6 (v := .int .i64 table) rfl
                have d7 := Blk.cell (hB2) 7 (v := .slice a n cp) rfl
                have hbz := (hbe.trans (hb1.mono hbe.size)).trans (hb2.mono (hbe.trans (hb1.mono hbe.size)).size)
                clear hb1 hb2
                go_wp2_with fail
                (with_reducible refine (kp W2).mono ?_); rintro e1 W3 ⟨rfl, rfl⟩
                clear kp
                go_wp2_with fail
                go_ret
                exact ⟨by rw [HX.out]; rfl, hbz⟩
              · have t6 : ((n : Int) == 0) = false := beq_eq_false_iff_ne.2 (by omega)
                by_cases h7 : n ≤ 16
                · have t7 : decide ((16 : Int) < (n : Int)) = false := decide_eq_false (by omega)
                  have hr : rest ⟨unit, guard, most, pat, gap, every, table⟩ n = true := decide_eq_true (by dsimp only; omega)
                  rw [hr, Bool.true_and] at HX
                  have hmm := @run_makeMap Tryz.prog
                  clear hr h6
                  go_enter Tryz.func49, Tryz.ntmps49
                  go_wp2_with fail
                  (with_reducible refine (km).mono ?_); rintro e1 W1 ⟨rfl, hb1⟩
                  have hB1 := HB.out.below hb1 HB.out.lt
                  have ka := kaC W1
                  have d0 := Blk.cell (hB1) 0 (v := .int .i64 unit) rfl
                  have d1 := Blk.cell (hB1) 1 (v := .int .i64 guard) rfl
                  have d2 := Blk.cell (hB1) 2 (v := .int .i64 most) rfl
                  have d3 := Blk.cell (hB1) 3 (v := .int .i64 pat) rfl
                  have d4 := Blk.cell (hB1) 4 (v := .int .i64 gap) rfl
                  have d5 := Blk.cell (hB1) 5 (v := .int .i64 every) rfl
                  have d6 := Blk.cell (hB1) 6 (v := .int .i64 table) rfl
                  have d7 := Blk.cell (hB1) 7 (v := .slice a n cp) rfl
                  clear km
                  go_wp2_with fail
                  (with_reducible refine (ka).mono ?_); rintro e1 W2 ⟨rfl, hb2⟩
                  have hB2 := hB1.below hb2 hB1.lt
                  clear ka d0 d1 d2 d3 d4 d5 d6 d7 hB1
                  have d0 := Blk.cell (hB2) 0 (v := .int .i64 unit) rfl
                  have d1 := Blk.cell (hB2) 1 (v := .int .i64 guard) rfl
                  have d2 := Blk.cell (hB2) 2 (v := .int .i64 most) rfl
                  have d3 := Blk.cell (hB2) 3 (v := .int .i64 pat) rfl
                  have d4 := Blk.cell (hB2) 4 (v := .int .i64 gap) rfl
                  have d5 := Blk.cell (hB2) 5 (v := .int .i64 every) rfl
                  have d6 := Blk.cell (hB2) 6 (v := .int .i64 table) rfl
                  have d7 := Blk.cell (hB2) 7 (v := .slice a n cp) rfl
                  have hbz := (hbe.trans (hb1.mono hbe.size)).trans (hb2.mono (hbe.trans (hb1.mono hbe.size)).size)
                  clear hb1 hb2
                  go_wp2_with fail
                  (with_reducible refine (kp W2).mono ?_); rintro e1 W3 ⟨rfl, rfl⟩
                  clear kp
                  obtain ⟨W4, hput4, HM, hb4⟩ := mp_new w W2 table L hbz (by omega)
                  have hg1 := hbz.size
                  have e6 := Blk.cell (Blk.alloc hB2 (.map #[] 0)) 6 (v := .int .i64 table) rfl
                  have e7 := Blk.cell (hB2.below hb4 hB2.lt) 7 (v := .slice a n cp) rfl
                  have HI := Lib.hid HM
                  clear h1 h2 h3 h4 HM hb4 hB2
                  go_wp2_with fail
                  clear e6 e7 t6 t7 hput4 hmm d0 d1 d2 d3 d4 d5 d6 d7
                  obtain ⟨g, hg⟩ : ∃ g, W2.heap.size = g := ⟨_, rfl⟩
                  rw [hg] at HI hg1 ⊢
                  go_loopw [58] (fun i wr => ∃ q : Nat, q ≤ n ∧ i = .int .i64 q ∧ Hid (uptoB table L q = true) ∧ Mp w wr g table L q) (fun i _ => n - (intOf i).toNat)
                  case atStart => exact ⟨0, by omega, rfl, Lib.hid rfl, HI.out⟩
                  case round =>
                    obtain ⟨q, hq, rfl, HU, HM⟩ := hrel
                    clear HI
                    by_cases hqn : q < n
                    · have t1 : decide (q < n) = true := decide_eq_true hqn
                      obtain ⟨s, hs⟩ : ∃ s, L[q]? = some s := ⟨_, List.getElem?_eq_getElem (by rw [HN.out]; exact hqn)⟩
                      obtain ⟨b0, o0, rfl, hlt, hc⟩ := (HL.out.below (Nat.le_refl _) HM.be) q s hs
                      have k0 : (0 : Int) ≤ (q : Int) := Int.natCast_nonneg _
                      have k1 : (q : Int) < (n : Int) := by omega
                      have c0 := hc 0 _ rfl
                      have c1 := hc 1 _ rfl
                      have c2 := hc 2 _ rfl
                      have c3 := hc 3 _ rfl
                      have c4 := hc 4 _ rfl
                      rw [off_eq] at c0 c1 c2 c3 c4
                      rw [Nat.add_zero] at c0
                      have ky := may_any s (wr.alloc (.cells #[.int .i64 s.pid, .int .i64 s.mac, .int .i64 s.R, .int .i64 s.C, .int .i64 s.K] 77)) (HT.out.be (HM.be.alloc HM.be.size _))
                      have HS := Lib.hid (step_eq (table := table) hs)
                      have HQ := Lib.hid hs
                      have HMY : Hid (mayS s = true → 1 ≤ s.pid ∧ s.pid ≤ 8190) := Lib.hid (fun h => by unfold mayS at h; simp only [Bool.and_eq_true, decide_eq_true_eq] at h; exact ⟨h.1.1, h.1.2.1⟩)
                      obtain ⟨Y, hY⟩ : ∃ Y, mayS s = Y := ⟨_, rfl⟩
                      rw [hY] at ky HS HMY
                      obtain ⟨pid, mac, R, C, K⟩ := s
                      dsimp only at ky HS HMY c0 c1 c2 c3 c4
                      have hbk := Blk.new wr 77 #[.int .i64 pid, .int .i64 mac, .int .i64 R, .int .i64 C, .int .i64 K]
                      have HBK := Lib.hid hbk
                      have HM1 := HM.below ((Below.refl wr.heap.size wr).alloc (Nat.le_refl _) (.cells #[.int .i64 pid, .int .i64 mac, .int .i64 R, .int .i64 C, .int .i64 K] 77))
                      have HMH := Lib.hid HM1
                      have e0 := Blk.cell (hbk) 0 (v := .int .i64 pid) rfl
                      have e1 := Blk.cell (hbk) 1 (v := .int .i64 mac) rfl
                      have e2 := Blk.cell (hbk) 2 (v := .int .i64 R) rfl
                      have e3 := Blk.cell (hbk) 3 (v := .int .i64 C) rfl
                      have e4 := Blk.cell (hbk) 4 (v := .int .i64 K) rfl
                      clear hbk HM1 HM hc hY hs
                      go_wp2_with fail
                      (with_reducible refine (ky).mono ?_); rintro e1 W5 ⟨rfl, hb5⟩
                      have HM5 := HMH.out.below hb5
                      have HB5 := HBK.out.below hb5 HBK.out.lt
                      clear ky hb5 HMH HBK e0 e1 e2 e3 e4 c0 c1 c2 c3 c4
                      cases Y with
                      | false =>
                        have hbz5 := HM5.be
                        replace HX : Hid (X = 23) := Lib.hid (by rw [HX.out, ← HN.out, upto_false (by rw [HN.out]; exact hqn) (HS.out.trans (Bool.false_and _))]; rfl)
                        clear HM5
                        go_wp2_with fail
                        go_ret
                        exact ⟨by rw [HX.out]; rfl, hbz5⟩
                      | true =>
                        have hr := HMY.out rfl
                        have lk := HM5.look (x := pid) (by omega)
                        have f0 := Blk.cell HB5 0 (v := .int .i64 pid) rfl
                        obtain ⟨B, hBe⟩ : ∃ B, seenB table L q pid = B := ⟨_, rfl⟩
                        rw [hBe] at lk HS
                        clear hBe
                        cases B with
                        | true =>
                          have hbz5 := HM5.be
                          replace HX : Hid (X = 23) := Lib.hid (by rw [HX.out, ← HN.out, upto_false (by rw [HN.out]; exact hqn) (HS.out.trans rfl)]; rfl)
                          clear HM5 HB5
                          go_wp2_with fail
                          go_ret
                          exact ⟨by rw [HX.out]; rfl, hbz5⟩
                        | false =>
                          obtain ⟨W6, hput, HM6⟩ := HM5.put HQ.out (by omega) (by dsimp only; omega)
                          dsimp only at hput
                          have HU2 : Hid (uptoB table L (q + 1) = true) := Lib.hid (by rw [upto_succ, HU.out, HS.out]; rfl)
                          have HM7 := Lib.hid HM6
                          clear HM5 HB5 HM6
                          go_wp2_with fail
                          go_roundw
                          case rel => exact ⟨q + 1, by omega, by go_num, HU2, HM7.out⟩
                          case measure => simp [intOf]; omega
                    · obtain rfl : q = n := by omega
                      have t1 : decide (q < q) = false := by simp
                      have hbz6 := HM.be
                      replace HX : Hid (X = 0) := Lib.hid (by rw [HX.out, HU.out]; rfl)
                      clear HM
                      go_wp2_with fail
                      go_ret
                      exact ⟨by rw [HX.out]; rfl, hbz6⟩
                · have t7 : decide ((16 : Int) < (n : Int)) = true := decide_eq_true (by omega)
                  have hr : rest ⟨unit, guard, most, pat, gap, every, table⟩ n = false := decide_eq_false (by dsimp only; omega)
                  replace HX : Hid (X = 23) := Lib.hid (by rw [HX.out, hr]; rfl)
                  go_enter Tryz.func49, Tryz.ntmps49
                  go_wp2_with fail
                  (with_reducible refine (km).mono ?_); rintro e1 W1 ⟨rfl, hb1⟩
                  have hB1 := HB.out.below hb1 HB.out.lt
                  have ka := kaC W1
                  have d0 := Blk.cell (hB1) 0 (v := .int .i64 unit) rfl
                  have d1 := Blk.cell (hB1) 1 (v := .int .i64 guard) rfl
                  have d2 := Blk.cell (hB1) 2 (v := .int .i64 most) rfl
                  have d3 := Blk.cell (hB1) 3 (v := .int .i64 pat) rfl
                  have d4 := Blk.cell (hB1) 4 (v := .int .i64 gap) rfl
                  have d5 := Blk.cell (hB1) 5 (v := .int .i64 every) rfl
                  have d6 := Blk.cell (hB1) 6 (v := .int .i64 table) rfl
                  have d7 := Blk.cell (hB1) 7 (v := .slice a n cp) rfl
                  clear km
                  go_wp2_with fail
                  (with_reducible refine (ka).mono ?_); rintro e1 W2 ⟨rfl, hb2⟩
                  have hB2 := hB1.below hb2 hB1.lt
                  clear ka d0 d1 d2 d3 d4 d5 d6 d7 hB1
                  have d0 := Blk.cell (hB2) 0 (v := .int .i64 unit) rfl
                  have d1 := Blk.cell (hB2) 1 (v := .int .i64 guard) rfl
                  have d2 := Blk.cell (hB2) 2 (v := .int .i64 most) rfl
                  have d3 := Blk.cell (hB2) 3 (v := .int .i64 pat) rfl
                  have d4 := Blk.cell (hB2) 4 (v := .int .i64 gap) rfl
                  have d5 := Blk.cell (hB2) 5 (v := .int .i64 every) rfl
                  have d6 := Blk.cell (hB2) 6 (v := .int .i64 table) rfl
                  have d7 := Blk.cell (hB2) 7 (v := .slice a n cp) rfl
                  have hbz := (hbe.trans (hb1.mono hbe.size)).trans (hb2.mono (hbe.trans (hb1.mono hbe.size)).size)
                  clear hb1 hb2
                  go_wp2_with fail
                  (with_reducible refine (kp W2).mono ?_); rintro e1 W3 ⟨rfl, rfl⟩
                  clear kp
                  go_wp2_with fail
                  go_ret
                  exact ⟨by rw [HX.out]; rfl, hbz⟩
            · have hp : (decide (0 < table) && decide (table < 8191)) = false := by
                by_cases h0 : 0 < table
                · rw [decide_eq_true h0, decide_eq_false (by omega)]; rfl
                · rw [decide_eq_false h0]; rfl
              rw [hp] at kp
              have hr : rest ⟨unit, guard, most, pat, gap, every, table⟩ n = false := decide_eq_false (by dsimp only; omega)
              replace HX : Hid (X = 23) := Lib.hid (by rw [HX.out, hr]; rfl)
              go_enter Tryz.func49, Tryz.ntmps49
              go_wp2_with fail
              (with_reducible refine (km).mono ?_); rintro e1 W1 ⟨rfl, hb1⟩
              have hB1 := HB.out.below hb1 HB.out.lt
              have ka := kaC W1
              have d0 := Blk.cell (hB1) 0 (v := .int .i64 unit) rfl
              have d1 := Blk.cell (hB1) 1 (v := .int .i64 guard) rfl
              have d2 := Blk.cell (hB1) 2 (v := .int .i64 most) rfl
              have d3 := Blk.cell (hB1) 3 (v := .int .i64 pat) rfl
              have d4 := Blk.cell (hB1) 4 (v := .int .i64 gap) rfl
              have d5 := Blk.cell (hB1) 5 (v := .int .i64 every) rfl
              have d6 := Blk.cell (hB1) 6 (v := .int .i64 table) rfl
              have d7 := Blk.cell (hB1) 7 (v := .slice a n cp) rfl
              clear km
              go_wp2_with fail
              (with_reducible refine (ka).mono ?_); rintro e1 W2 ⟨rfl, hb2⟩
              have hB2 := hB1.below hb2 hB1.lt
              clear ka d0 d1 d2 d3 d4 d5 d6 d7 hB1
              have d0 := Blk.cell (hB2) 0 (v := .int .i64 unit) rfl
              have d1 := Blk.cell (hB2) 1 (v := .int .i64 guard) rfl
              have d2 := Blk.cell (hB2) 2 (v := .int .i64 most) rfl
              have d3 := Blk.cell (hB2) 3 (v := .int .i64 pat) rfl
              have d4 := Blk.cell (hB2) 4 (v := .int .i64 gap) rfl
              have d5 := Blk.cell (hB2) 5 (v := .int .i64 every) rfl
              have d6 := Blk.cell (hB2) 6 (v := .int .i64 table) rfl
              have d7 := Blk.cell (hB2) 7 (v := .slice a n cp) rfl
              have hbz := (hbe.trans (hb1.mono hbe.size)).trans (hb2.mono (hbe.trans (hb1.mono hbe.size)).size)
              clear hb1 hb2
              go_wp2_with fail
              (with_reducible refine (kp W2).mono ?_); rintro e1 W3 ⟨rfl, rfl⟩
              clear kp
              go_wp2_with fail
              go_ret
              exact ⟨by rw [HX.out]; rfl, hbz⟩
          · have hr : rest ⟨unit, guard, most, pat, gap, every, table⟩ n = false := decide_eq_false (by dsimp only; omega)
            replace HX : Hid (X = 23) := Lib.hid (by rw [HX.out, hr]; rfl)
            go_enter Tryz.func49, Tryz.ntmps49
            go_wp2_with fail
            (with_reducible refine (km).mono ?_); rintro e1 W1 ⟨rfl, hb1⟩
            have hB1 := HB.out.below hb1 HB.out.lt
            have ka := kaC W1
            have d0 := Blk.cell (hB1) 0 (v := .int .i64 unit) rfl
            have d1 := Blk.cell (hB1) 1 (v := .int .i64 guard) rfl
            have d2 := Blk.cell (hB1) 2 (v := .int .i64 most) rfl
            have d3 := Blk.cell (hB1) 3 (v := .int .i64 pat) rfl
            have d4 := Blk.cell (hB1) 4 (v := .int .i64 gap) rfl
            have d5 := Blk.cell (hB1) 5 (v := .int .i64 every) rfl
            have d6 := Blk.cell (hB1) 6 (v := .int .i64 table) rfl
            have d7 := Blk.cell (hB1) 7 (v := .slice a n cp) rfl
            clear km
            go_wp2_with fail
            (with_reducible refine (ka).mono ?_); rintro e1 W2 ⟨rfl, hb2⟩
            have hB2 := hB1.below hb2 hB1.lt
            clear ka d0 d1 d2 d3 d4 d5 d6 d7 hB1
            have d0 := Blk.cell (hB2) 0 (v := .int .i64 unit) rfl
            have d1 := Blk.cell (hB2) 1 (v := .int .i64 guard) rfl
            have d2 := Blk.cell (hB2) 2 (v := .int .i64 most) rfl
            have d3 := Blk.cell (hB2) 3 (v := .int .i64 pat) rfl
            have d4 := Blk.cell (hB2) 4 (v := .int .i64 gap) rfl
            have d5 := Blk.cell (hB2) 5 (v := .int .i64 every) rfl
            have d6 := Blk.cell (hB2) 6 (v := .int .i64 table) rfl
            have d7 := Blk.cell (hB2) 7 (v := .slice a n cp) rfl
            have hbz := (hbe.trans (hb1.mono hbe.size)).trans (hb2.mono (hbe.trans (hb1.mono hbe.size)).size)
            clear hb1 hb2
            go_wp2_with fail
            go_ret
            exact ⟨by rw [HX.out]; rfl, hbz⟩
        · have hr : rest ⟨unit, guard, most, pat, gap, every, table⟩ n = false := decide_eq_false (by dsimp only; omega)
          replace HX : Hid (X = 23) := Lib.hid (by rw [HX.out, hr]; rfl)
          go_enter Tryz.func49, Tryz.ntmps49
          go_wp2_with fail
          (with_reducible refine (km).mono ?_); rintro e1 W1 ⟨rfl, hb1⟩
          have hB1 := HB.out.below hb1 HB.out.lt
          have ka := kaC W1
          have d0 := Blk.cell (hB1) 0 (v := .int .i64 unit) rfl
          have d1 := Blk.cell (hB1) 1 (v := .int .i64 guard) rfl
          have d2 := Blk.cell (hB1) 2 (v := .int .i64 most) rfl
          have d3 := Blk.cell (hB1) 3 (v := .int .i64 pat) rfl
          have d4 := Blk.cell (hB1) 4 (v := .int .i64 gap) rfl
          have d5 := Blk.cell (hB1) 5 (v := .int .i64 every) rfl
          have d6 := Blk.cell (hB1) 6 (v := .int .i64 table) rfl
          have d7 := Blk.cell (hB1) 7 (v := .slice a n cp) rfl
          clear km
          go_wp2_with fail
          (with_reducible refine (ka).mono ?_); rintro e1 W2 ⟨rfl, hb2⟩
          have hB2 := hB1.below hb2 hB1.lt
          clear ka d0 d1 d2 d3 d4 d5 d6 d7 hB1
          have d0 := Blk.cell (hB2) 0 (v := .int .i64 unit) rfl
          have d1 := Blk.cell (hB2) 1 (v := .int .i64 guard) rfl
          have d2 := Blk.cell (hB2) 2 (v := .int .i64 most) rfl
          have d3 := Blk.cell (hB2) 3 (v := .int .i64 pat) rfl
          have d4 := Blk.cell (hB2) 4 (v := .int .i64 gap) rfl
          have d5 := Blk.cell (hB2) 5 (v := .int .i64 every) rfl
          have d6 := Blk.cell (hB2) 6 (v := .int .i64 table) rfl
          have d7 := Blk.cell (hB2) 7 (v := .slice a n cp) rfl
          have hbz := (hbe.trans (hb1.mono hbe.size)).trans (hb2.mono (hbe.trans (hb1.mono hbe.size)).size)
          clear hb1 hb2
          go_wp2_with fail
          go_ret
          exact ⟨by rw [HX.out]; rfl, hbz⟩
      · have hr : rest ⟨unit, guard, most, pat, gap, every, table⟩ n = false := decide_eq_false (by dsimp only; omega)
        replace HX : Hid (X = 23) := Lib.hid (by rw [HX.out, hr]; rfl)
        go_enter Tryz.func49, Tryz.ntmps49
        go_wp2_with fail
        (with_reducible refine (km).mono ?_); rintro e1 W1 ⟨rfl, hb1⟩
        have hB1 := HB.out.below hb1 HB.out.lt
        have ka := kaC W1
        have d0 := Blk.cell (hB1) 0 (v := .int .i64 unit) rfl
        have d1 := Blk.cell (hB1) 1 (v := .int .i64 guard) rfl
        have d2 := Blk.cell (hB1) 2 (v := .int .i64 most) rfl
        have d3 := Blk.cell (hB1) 3 (v := .int .i64 pat) rfl
        have d4 := Blk.cell (hB1) 4 (v := .int .i64 gap) rfl
        have d5 := Blk.cell (hB1) 5 (v := .int .i64 every) rfl
        have d6 := Blk.cell (hB1) 6 (v := .int .i64 table) rfl
        have d7 := Blk.cell (hB1) 7 (v := .slice a n cp) rfl
        clear km
        go_wp2_with fail
        (with_reducible refine (ka).mono ?_); rintro e1 W2 ⟨rfl, hb2⟩
        have hB2 := hB1.below hb2 hB1.lt
        clear ka d0 d1 d2 d3 d4 d5 d6 d7 hB1
        have d0 := Blk.cell (hB2) 0 (v := .int .i64 unit) rfl
        have d1 := Blk.cell (hB2) 1 (v := .int .i64 guard) rfl
        have d2 := Blk.cell (hB2) 2 (v := .int .i64 most) rfl
        have d3 := Blk.cell (hB2) 3 (v := .int .i64 pat) rfl
        have d4 := Blk.cell (hB2) 4 (v := .int .i64 gap) rfl
        have d5 := Blk.cell (hB2) 5 (v := .int .i64 every) rfl
        have d6 := Blk.cell (hB2) 6 (v := .int .i64 table) rfl
        have d7 := Blk.cell (hB2) 7 (v := .slice a n cp) rfl
        have hbz := (hbe.trans (hb1.mono hbe.size)).trans (hb2.mono (hbe.trans (hb1.mono hbe.size)).size)
        clear hb1 hb2
        go_wp2_with fail
        go_ret
        exact ⟨by rw [HX.out]; rfl, hbz⟩
    · have hr : rest ⟨unit, guard, most, pat, gap, every, table⟩ n = false := decide_eq_false (by dsimp only; omega)
      replace HX : Hid (X = 23) := Lib.hid (by rw [HX.out, hr]; rfl)
      go_enter Tryz.func49, Tryz.ntmps49
      go_wp2_with fail
      (with_reducible refine (km).mono ?_); rintro e1 W1 ⟨rfl, hb1⟩
      have hB1 := HB.out.below hb1 HB.out.lt
      have ka := kaC W1
      have d0 := Blk.cell (hB1) 0 (v := .int .i64 unit) rfl
      have d1 := Blk.cell (hB1) 1 (v := .int .i64 guard) rfl
      have d2 := Blk.cell (hB1) 2 (v := .int .i64 most) rfl
      have d3 := Blk.cell (hB1) 3 (v := .int .i64 pat) rfl
      have d4 := Blk.cell (hB1) 4 (v := .int .i64 gap) rfl
      have d5 := Blk.cell (hB1) 5 (v := .int .i64 every) rfl
      have d6 := Blk.cell (hB1) 6 (v := .int .i64 table) rfl
      have d7 := Blk.cell (hB1) 7 (v := .slice a n cp) rfl
      clear km
      go_wp2_with fail
      (with_reducible refine (ka).mono ?_); rintro e1 W2 ⟨rfl, hb2⟩
      have hB2 := hB1.below hb2 hB1.lt
      clear ka d0 d1 d2 d3 d4 d5 d6 d7 hB1
      have d0 := Blk.cell (hB2) 0 (v := .int .i64 unit) rfl
      have d1 := Blk.cell (hB2) 1 (v := .int .i64 guard) rfl
      have d2 := Blk.cell (hB2) 2 (v := .int .i64 most) rfl
      have d3 := Blk.cell (hB2) 3 (v := .int .i64 pat) rfl
      have d4 := Blk.cell (hB2) 4 (v := .int .i64 gap) rfl
      have d5 := Blk.cell (hB2) 5 (v := .int .i64 every) rfl
      have d6 := Blk.cell (hB2) 6 (v := .int .i64 table) rfl
      have d7 := Blk.cell (hB2) 7 (v := .slice a n cp) rfl
      have hbz := (hbe.trans (hb1.mono hbe.size)).trans (hb2.mono (hbe.trans (hb1.mono hbe.size)).size)
      clear hb1 hb2
      go_wp2_with fail
      go_ret
      exact ⟨by rw [HX.out]; rfl, hbz⟩
end Go.Proofs.YtbiiehobfnbloaaGreatDoor.LnC
