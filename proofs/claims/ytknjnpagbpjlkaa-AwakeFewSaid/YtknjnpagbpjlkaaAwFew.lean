/- The walk over AwakeLong. -/
import Derived.Test.YtknjnpagbpjlkaaAwF
import Derived.Test.YtknjnpagbpjlkaaAwFewP
import Derived.Test.YtknjnpagbpjlkaaAwAt
import Derived.Test.YtknjnpagbpjlkaaAwV
import Derived.Deep.RegionHeld3
namespace Go.Proofs.Ytknjnpagbpjlkaa.AwFew
open Go.RowKit Go.Proofs.Ytknjnpagbpjlkaa.Q Go.Proofs.Ytknjnpagbpjlkaa.Mem Go.Proofs.Ytknjnpagbpjlkaa.AwA Go.Proofs.Ytknjnpagbpjlkaa.AwB Go.Proofs.Ytknjnpagbpjlkaa.AwC Go.Proofs.Ytknjnpagbpjlkaa.AwD Go.Proofs.Ytknjnpagbpjlkaa.AwE Go.Proofs.Ytknjnpagbpjlkaa.AwF Go.Proofs.Ytknjnpagbpjlkaa.AwR Go.Proofs.Ytknjnpagbpjlkaa.AwT Go.Proofs.Ytknjnpagbpjlkaa.AwV Go.Proofs.Ytknjnpagbpjlkaa.AwAt

theorem alloc_below {w w1 : World} (h : Below w.heap.size w w1) (o : Obj) : Below w.heap.size w (w1.alloc o) := h.alloc h.size o
theorem tstay {W W' : World} {B9 g : Nat} {t : TypeId} {cs : Array Value} (h : Blk W B9 t cs) (t6 : W.grownBy W' (some g)) (hne : B9 ≠ g) : Blk W' B9 t cs := Blk.grown h t6 (by intro e; injection e with e; exact hne e)
theorem bturn {w W W' : World} {g : Nat} {m : Aw.M} (h : Below w.heap.size w W) (t : Turned W W' g m) (hg : w.heap.size ≤ g) : Below w.heap.size w W' := h.trans (below_of_only t.only h.size (fun k hk => by cases hk; exact hg))


/-- the machine, and the boxes -/
structure Mp (w W : World) (s gm : Nat) (A : Aw.M) (cs ps : Array Value) : Prop where
  xa : At W gm A
  xi : A.Inv
  xc : Blk W s 23 cs
  xp : Blk W (s + 1) 47 ps
  xn : s + 1 < gm
  w0 : w.heap.size = s
  be : Below w.heap.size w W
section
variable {w W W' : World} {s gm : Nat} {A X : Aw.M} {cs ps : Array Value}
theorem Mp.turn (h : Mp w W s gm A cs ps) (t : Turned W W' gm X) (hi : X.Inv) : Mp w W' s gm X cs ps :=
  ⟨t.at_, hi, tstay h.xc t.only (by have := h.xn; omega), tstay h.xp t.only (by have := h.xn; omega), h.xn, h.w0, bturn h.be t (by have := h.xn; have := h.w0; omega)⟩
theorem Mp.below (h : Mp w W s gm A cs ps) (hb : Below W.heap.size W W') : Mp w W' s gm A cs ps :=
  ⟨Blk.below h.xa hb (Blk.lt h.xa), h.xi, Blk.below h.xc hb (Blk.lt h.xc), Blk.below h.xp hb (Blk.lt h.xp), h.xn, h.w0, h.be.trans (hb.mono h.be.size)⟩
end

theorem at_anyI (a : Option Addr) (zs : List Int) (k cap : Nat) (B : Int) (w : World) (hB : 1 ≤ B) (hB' : B ≤ 1048576) {z : Int} (hk : z = k) (hz : Ints w a zs) :
    Calls Try.prog 22 #[.slice a zs.length cap, .int .i64 z, .int .i64 B] w fun e w' => e = .returned (.int .i64 (atv zs k B)) ∧ w = w' := by
  rw [hk]
  exact at_any a zs k cap B w hB hB' hz



set_option maxRecDepth 100000 in
set_option maxHeartbeats 4000000 in
theorem few_no (u g b p : Int) (ga la : Option Addr) (gc lc : Nat) (fv : Value) (G L : List Int) (w : World)
    (h : ¬ (Aw.cfg u g b p = true ∧ u ≤ 40 ∧ g ≤ 40 ∧ b ≤ 40 ∧ G.length ≤ 12)) :
        Calls Try.prog 5 #[.agg #[.int .i64 u, .int .i64 g, .int .i64 b, .int .i64 p], .agg #[.slice ga G.length gc, .slice la L.length lc, fv]] w fun e w' => e = .returned (.bool true) ∧ Below w.heap.size w w' := by
  have k1 := lmay_any u g b p
  by_cases hc : Aw.cfg u g b p = true
  · rw [hc] at k1
    have h' : ¬ (u ≤ 40 ∧ g ≤ 40 ∧ b ≤ 40 ∧ G.length ≤ 12) := fun hh => h ⟨hc, hh⟩
    have H := Lib.hid h'
    clear h h' hc
    go_enter Try.func5, Try.ntmps5
    go_wp2_with fail
    (with_reducible refine (k1 _).mono ?_); rintro e w1 ⟨rfl, rfl⟩
    go_wp2_with fail
    all_goals first
      | ((with_reducible refine (example_any _).mono ?_); rintro e w2 ⟨rfl, b2⟩; go_wp2; go_ret; exact ⟨rfl, (alloc_below (alloc_below (alloc_below (Below.refl _ _) _) _) _).trans (b2.mono (by simp <;> omega))⟩)
      | (exfalso; have := H.out; omega)
  · have hc' : Aw.cfg u g b p = false := by simpa using hc
    rw [hc'] at k1
    clear h hc hc'
    go_enter Try.func5, Try.ntmps5
    go_wp2_with fail
    (with_reducible refine (k1 _).mono ?_); rintro e w1 ⟨rfl, rfl⟩
    go_wp2_with fail
    (with_reducible refine (example_any _).mono ?_); rintro e w2 ⟨rfl, b2⟩
    go_wp2
    go_ret
    exact ⟨rfl, (alloc_below (alloc_below (alloc_below (Below.refl _ _) _) _) _).trans (b2.mono (by simp <;> omega))⟩

set_option maxRecDepth 100000 in
set_option maxHeartbeats 4000000 in
theorem few_yes (u g b p : Int) (ga la : Option Addr) (gc lc : Nat) (fv : Value) (G L : List Int) (w : World)
    (hu : -9223372036854775808 ≤ u ∧ u ≤ 9223372036854775807) (hg : -9223372036854775808 ≤ g ∧ g ≤ 9223372036854775807) (hb : -9223372036854775808 ≤ b ∧ b ≤ 9223372036854775807) (hp : -9223372036854775808 ≤ p ∧ p ≤ 9223372036854775807)
    (hG : Ints w ga G) (hL : Ints w la L)
    (hc : Aw.cfg u g b p = true) (hu' : u ≤ 40) (hg' : g ≤ 40) (hb' : b ≤ 40) (hl : G.length ≤ 12) :
        Calls Try.prog 5 #[.agg #[.int .i64 u, .int .i64 g, .int .i64 b, .int .i64 p], .agg #[.slice ga G.length gc, .slice la L.length lc, fv]] w fun e w' => e = .returned (.bool true) ∧ Below w.heap.size w w' := by
  have k1 := lmay_any u g b p
  rw [hc] at k1
  have k3 := fun w => new_ok u g b p w hu hg hb hp hc
  have hi := Aw.inv_start hc
  have hcf : 1 ≤ u ∧ 0 ≤ g ∧ 1 ≤ b ∧ 1 ≤ p := by simp only [Aw.cfg, decide_eq_true_eq] at hc; omega
  have f4 : ∀ (x0 x1 x2 x3 x4 x5 : Value) w, (Instr.field 50 (.agg #[x0, x1, x2, x3, x4, x5]) 4).run Try.prog w = .ok x4 w := fun _ _ _ _ _ _ _ => by kernel_rfl
  have f5 : ∀ (x0 x1 x2 x3 x4 x5 : Value) w, (Instr.field 50 (.agg #[x0, x1, x2, x3, x4, x5]) 5).run Try.prog w = .ok x5 w := fun _ _ _ _ _ _ _ => by kernel_rfl
  have e1 : decide (40 < u) = false := by simp; omega
  have e2 : decide (40 < g) = false := by simp; omega
  have e3 : decide (40 < b) = false := by simp; omega
  have e4 : decide (12 < (G.length : Int)) = false := by simp; omega
  have HG := Lib.hid hG
  have HL := Lib.hid hL
  clear hc hG hL
  go_enter Try.func5, Try.ntmps5
  go_wp2_with fail
  (with_reducible refine (k1 _).mono ?_); rintro e w1 ⟨rfl, rfl⟩
  clear k1
  go_wp2_with fail
  (with_reducible refine (k3 _).mono ?_); rintro e w1 ⟨gm, hgm, rfl, ma, b1⟩
  clear e1 e2 e3 e4 k3
  have hM : Mp w w1 w.heap.size gm (Aw.start u g b p) #[.int .i64 u, .int .i64 g, .int .i64 b, .int .i64 p] #[.slice ga G.length gc, .slice la L.length lc, fv] :=
    ⟨ma, hi, Blk.below (Blk.alloc (Blk.alloc (Blk.new w _ _) _) _) b1 (by simp <;> omega), Blk.below (Blk.alloc (Blk.newAt _ _ _ (by simp)) _) b1 (by simp <;> omega), by simp at hgm; omega, rfl, (alloc_below (alloc_below (alloc_below (Below.refl _ _) _) _) _).trans (b1.mono (by simp <;> omega))⟩
  clear ma b1 hgm hi
  go_wp2_with fail
  go_loopw [7, 8] (fun sv i wr => ∃ (k : Nat) (X : Aw.M) (sp : Int), k ≤ G.length ∧ sv = .int .i64 sp ∧ i = .int .i64 k ∧ Mp w wr w.heap.size gm X #[.int .i64 u, .int .i64 g, .int .i64 b, .int .i64 p] #[.slice ga G.length gc, .slice la L.length lc, fv] ∧ Aw.Few X k (atv G k 300) sp u g b p) (fun _ i _ => G.length - (intOf i).toNat)
  case atStart => exact ⟨0, _, 0, by omega, rfl, rfl, hM, Aw.few_start⟩
  case round =>
    clear hM
    obtain ⟨k, X, sp, hk, rfl, rfl, hM, hF⟩ := hrel
    have p0 := Blk.cell hM.xp 0 (v := .slice ga G.length gc) rfl
    by_cases hkl : k < G.length
    · have t0 : decide ((k : Int) < G.length) = true := by simp; omega
      have p1 := Blk.cell hM.xp 1 (v := .slice la L.length lc) rfl
      have c2 := Blk.cell hM.xc 2 (v := .int .i64 b) rfl
      have hGr := HG.out.below (Nat.le_refl _) hM.be
      have hLr := HL.out.below (Nat.le_refl _) hM.be
      obtain ⟨n0, hn0⟩ : ∃ n0, atv L k b = n0 := ⟨_, rfl⟩
      have hnb := atv_bounds L k b (by omega)
      have kn := fun w h => at_any la L k lc b w (by omega) (by omega) h
      rw [hn0] at kn hnb
      obtain ⟨gp, hgp⟩ : ∃ gp : Nat, atv G k 300 = gp := ⟨(atv G k 300).toNat, by have := atv_bounds G k 300 (by omega); omega⟩
      have hgb := atv_bounds G k 300 (by omega)
      have kg := fun w h => at_any ga G k gc 300 w (by omega) (by omega) h
      rw [hgp] at kg hgb hF
      obtain ⟨nx, hnx⟩ : ∃ nx, atv G (k + 1) 300 = nx := ⟨_, rfl⟩
      have hxb := atv_bounds G (k + 1) 300 (by omega)
      have kx := fun w h => at_anyI ga G (k + 1) gc 300 w (z := (k : Int) + 1) (by omega) (by omega) (by omega) h
      rw [hnx] at kx hxb
      have HX := Lib.hid hnx
      clear hnx hgp hn0
      go_wp2_with fail
      (with_reducible refine (kn _ hLr).mono ?_); rintro e w2 ⟨rfl, rfl⟩
      clear kn
      go_wp2_with fail
      (with_reducible refine (kg _ hGr).mono ?_); rintro e w2 ⟨rfl, rfl⟩
      clear kg p1 c2 t0
      by_cases hk0 : k = 0
      · have t1 : decide (0 < k) = false := by simp; omega
        obtain ⟨S, hS⟩ : ∃ S, X.now = S := ⟨_, rfl⟩
        obtain ⟨sp1, hs1⟩ : ∃ s, X.spent = s := ⟨_, rfl⟩
        have hB := Aw.few_first (n := n0 + 1) (next := nx) hF hk0 (by omega)
        have hSb : S ≤ 339 * k + 299 := by have := hF.n1; omega
        have hsp : k = 0 ∨ sp1 ≤ sp + (u - 1 + g) := Or.inl hk0
        rw [hS, hs1] at hB
        clear hS hs1 hF hk0 p0 hGr hLr
        have hGr := HG.out.below (Nat.le_refl _) hM.be
        have p0 := Blk.cell hM.xp 0 (v := .slice ga G.length gc) rfl
        go_wp2_with fail
        (with_reducible refine (kx _ hGr).mono ?_); rintro e w2 ⟨rfl, rfl⟩
        clear kx hGr p0
        go_wp2_with fail
        obtain ⟨wo, rfl⟩ : ∃ wo : World, wo = wr := ⟨_, rfl⟩
        go_loopw [13] (fun i wi => ∃ (j : Nat) (Y : Aw.M), (j : Int) ≤ n0 + 1 ∧ i = .int .i64 j ∧ Mp w wi w.heap.size gm Y #[.int .i64 u, .int .i64 g, .int .i64 b, .int .i64 p] #[.slice ga G.length gc, .slice la L.length lc, fv] ∧ Aw.Bst Y S j (n0 + 1) nx sp1 u g b p) (fun i _ => (n0 + 1).toNat - (intOf i).toNat)
        case atStart => exact ⟨0, _, by omega, rfl, hM, hB⟩
        case round =>
          clear hM hB
          obtain ⟨j, Y, hj, rfl, hM, hB⟩ := hrel
          by_cases hjl : (j : Int) < n0 + 1
          · have t2 : decide ((j : Int) < n0 + 1) = true := by simpa using hjl
            have c0 := Blk.cell hM.xc 0 (v := .int .i64 u) rfl
            have u0 : (u == 0) = false := by simp; omega
            have hcl := Aw.ceil_facts (t := n0 + 1 - j + nx) (u := u) (by omega) (by omega) (by omega) hu'
            unfold Aw.ceil at hcl
            have hst : (Y.state != 2) = true := by simpa using Aw.bst_awake hB hjl
            have ka := fun w h => awake_any Y gm w h
            rw [hst] at ka
            clear hst
            go_wp2_with fail
            (with_reducible refine (ka _ hM.xa).mono ?_); rintro e w2 ⟨rfl, rfl⟩
            clear ka
            by_cases hlast : (j : Int) + 1 = n0 + 1
            · have t3 : ((j : Int) == n0) = true := by simp; omega
              have hB2 := Aw.bst_last hB (by omega) hlast (by omega) (by omega) (by omega) (by omega) hu' (by omega) (by omega)
              have kh := fun w h => heard_any Y gm ((n0 + 1 - j + nx + u - 1).tdiv u) 0 false true w h hM.xi
              rw [Aw.hear0 (Aw.bst_awake hB hjl) hcl.1 hcl.2.1] at kh
              unfold Aw.ceil at hB2
              rw [show (j : Int) + 1 = ((j + 1 : Nat) : Int) by omega] at hB2
              clear hB
              go_wp2_with fail
              (with_reducible refine (kh _ hM.xa).mono ?_); rintro e w6 ⟨rfl, t6⟩
              have hM6 := hM.turn t6 (Aw.heard_inv _ hM.xi _ _ _)
              clear hM t6 kh hcl c0 u0 t3 t2
              go_wp2_with fail
              (with_reducible refine (next_any _ gm _ hM6.xa hM6.xi).mono ?_); rintro e w7 ⟨rfl, t7⟩
              have hM7 := hM6.turn t7 (Aw.next_inv _ hM6.xi)
              clear hM6 t7
              go_wp2_with fail
              go_roundw
              case rel => exact ⟨j + 1, _, by omega, by go_num, hM7, hB2⟩
              case measure => simp [intOf]; omega
            · have t3 : ((j : Int) == n0) = false := by simp; omega
              have hB2 := Aw.bst_mid hB (by omega) (by omega) (by omega) (by omega) (by omega) (by omega) (by omega) hu'
              have kh := fun w h => heard_any Y gm ((n0 + 1 - j + nx + u - 1).tdiv u) 0 false false w h hM.xi
              rw [Aw.hear0 (Aw.bst_awake hB hjl) hcl.1 hcl.2.1] at kh
              unfold Aw.ceil at hB2
              rw [show (j : Int) + 1 = ((j + 1 : Nat) : Int) by omega] at hB2
              clear hB
              go_wp2_with fail
              (with_reducible refine (kh _ hM.xa).mono ?_); rintro e w6 ⟨rfl, t6⟩
              have hM6 := hM.turn t6 (Aw.heard_inv _ hM.xi _ _ _)
              clear hM t6 kh hcl c0 u0 t3 t2
              go_wp2_with fail
              (with_reducible refine (next_any _ gm _ hM6.xa hM6.xi).mono ?_); rintro e w7 ⟨rfl, t7⟩
              have hM7 := hM6.turn t7 (Aw.next_inv _ hM6.xi)
              clear hM6 t7
              go_wp2_with fail
              go_roundw
              case rel => exact ⟨j + 1, _, by omega, by go_num, hM7, hB2⟩
              case measure => simp [intOf]; omega
          · have t2 : decide ((j : Int) < n0 + 1) = false := by simpa using hjl
            have hjn : (j : Int) = n0 + 1 := by omega
            rw [hjn] at hB
            have hF2 := Aw.bst_few hB hSb (by omega) (by omega)
            have y1 := hM.xi.t1
            have y2 := hM.xi.t2
            have y3 := hB.nw
            have y4 := hB.n1
            have y5 := hB.sp
            skip
            clear hB
            have ks := fun w h => stat_any Y gm w h
            unfold stat at ks
            go_wp2_with fail
            (with_reducible refine (ks _ hM.xa).mono ?_); rintro e w8 ⟨rfl, b8⟩
            have hM8 := hM.below b8
            clear hM b8 ks t2
            have c0 := Blk.cell hM8.xc 0 (v := .int .i64 u) rfl
            have c1 := Blk.cell hM8.xc 1 (v := .int .i64 g) rfl
            go_wp2_with fail
            rw [← HX.out] at hF2
            go_roundw
            case rel => exact ⟨k + 1, Y, Y.spent, by omega, rfl, by go_num, hM8, hF2⟩
            case measure => simp [intOf]; omega
      · have t1 : decide (0 < k) = true := by simp; omega
        clear p0 hGr hLr
        go_wp2_with fail
        obtain ⟨wo, rfl⟩ : ∃ wo : World, wo = wr := ⟨_, rfl⟩
        go_loopw [11] (fun i wi => ∃ j : Nat, j ≤ gp ∧ i = .int .i64 j ∧ Mp w wi w.heap.size gm (X.steps j) #[.int .i64 u, .int .i64 g, .int .i64 b, .int .i64 p] #[.slice ga G.length gc, .slice la L.length lc, fv]) (fun i _ => gp - (intOf i).toNat)
        case atStart => exact ⟨0, by omega, rfl, hM⟩
        case round =>
          have x1 := hM.xi.t1
          have x2 := hM.xi.t2
          clear hM
          obtain ⟨j, hj, rfl, hM⟩ := hrel
          by_cases hjl : j < gp
          · go_wp2_with fail
            (with_reducible refine (next_any _ gm _ hM.xa hM.xi).mono ?_); rintro e w7 ⟨rfl, t7⟩
            have hM7 := hM.turn t7 (Aw.next_inv _ hM.xi)
            clear hM t7
            go_wp2_with fail
            go_roundw
            case rel => exact ⟨j + 1, by omega, by go_num, hM7⟩
            case measure => simp [intOf]; omega
          · obtain rfl : j = gp := by omega
            obtain ⟨S, hS⟩ : ∃ S, X.now + (j : Int) = S := ⟨_, rfl⟩
            obtain ⟨sp1, hs1⟩ : ∃ s, (X.steps j).spent = s := ⟨_, rfl⟩
            obtain ⟨hB, hsp⟩ := Aw.few_gap (n := n0 + 1) (next := nx) hF (by omega) (by omega) (by omega) (by omega) (by omega)
            have hSb : S ≤ 339 * k + 299 := by have := hF.n1; omega
            have hspb : 0 ≤ sp ∧ sp ≤ 100000 := by have := hF.st; have := hF.n1; omega
            rw [hS, hs1] at hB
            rw [hs1] at hsp
            clear hS hs1 hF
            have hGr := HG.out.below (Nat.le_refl _) hM.be
            have p0 := Blk.cell hM.xp 0 (v := .slice ga G.length gc) rfl
            go_wp2_with fail
            (with_reducible refine (kx _ hGr).mono ?_); rintro e w2 ⟨rfl, rfl⟩
            clear kx hGr p0
            go_wp2_with fail
            obtain ⟨wo, rfl⟩ : ∃ wo : World, wo = wr := ⟨_, rfl⟩
            go_loopw [13] (fun i wi => ∃ (j : Nat) (Y : Aw.M), (j : Int) ≤ n0 + 1 ∧ i = .int .i64 j ∧ Mp w wi w.heap.size gm Y #[.int .i64 u, .int .i64 g, .int .i64 b, .int .i64 p] #[.slice ga G.length gc, .slice la L.length lc, fv] ∧ Aw.Bst Y S j (n0 + 1) nx sp1 u g b p) (fun i _ => (n0 + 1).toNat - (intOf i).toNat)
            case atStart => exact ⟨0, _, by omega, rfl, hM, hB⟩
            case round =>
              clear hM hB
              obtain ⟨j, Y, hj, rfl, hM, hB⟩ := hrel
              by_cases hjl : (j : Int) < n0 + 1
              · have t2 : decide ((j : Int) < n0 + 1) = true := by simpa using hjl
                have c0 := Blk.cell hM.xc 0 (v := .int .i64 u) rfl
                have u0 : (u == 0) = false := by simp; omega
                have hcl := Aw.ceil_facts (t := n0 + 1 - j + nx) (u := u) (by omega) (by omega) (by omega) hu'
                unfold Aw.ceil at hcl
                have hst : (Y.state != 2) = true := by simpa using Aw.bst_awake hB hjl
                have ka := fun w h => awake_any Y gm w h
                rw [hst] at ka
                clear hst
                go_wp2_with fail
                (with_reducible refine (ka _ hM.xa).mono ?_); rintro e w2 ⟨rfl, rfl⟩
                clear ka
                by_cases hlast : (j : Int) + 1 = n0 + 1
                · have t3 : ((j : Int) == n0) = true := by simp; omega
                  have hB2 := Aw.bst_last hB (by omega) hlast (by omega) (by omega) (by omega) (by omega) hu' (by omega) (by omega)
                  have kh := fun w h => heard_any Y gm ((n0 + 1 - j + nx + u - 1).tdiv u) 0 false true w h hM.xi
                  rw [Aw.hear0 (Aw.bst_awake hB hjl) hcl.1 hcl.2.1] at kh
                  unfold Aw.ceil at hB2
                  rw [show (j : Int) + 1 = ((j + 1 : Nat) : Int) by omega] at hB2
                  clear hB
                  go_wp2_with fail
                  (with_reducible refine (kh _ hM.xa).mono ?_); rintro e w6 ⟨rfl, t6⟩
                  have hM6 := hM.turn t6 (Aw.heard_inv _ hM.xi _ _ _)
                  clear hM t6 kh hcl c0 u0 t3 t2
                  go_wp2_with fail
                  (with_reducible refine (next_any _ gm _ hM6.xa hM6.xi).mono ?_); rintro e w7 ⟨rfl, t7⟩
                  have hM7 := hM6.turn t7 (Aw.next_inv _ hM6.xi)
                  clear hM6 t7
                  go_wp2_with fail
                  go_roundw
                  case rel => exact ⟨j + 1, _, by omega, by go_num, hM7, hB2⟩
                  case measure => simp [intOf]; omega
                · have t3 : ((j : Int) == n0) = false := by simp; omega
                  have hB2 := Aw.bst_mid hB (by omega) (by omega) (by omega) (by omega) (by omega) (by omega) (by omega) hu'
                  have kh := fun w h => heard_any Y gm ((n0 + 1 - j + nx + u - 1).tdiv u) 0 false false w h hM.xi
                  rw [Aw.hear0 (Aw.bst_awake hB hjl) hcl.1 hcl.2.1] at kh
                  unfold Aw.ceil at hB2
                  rw [show (j : Int) + 1 = ((j + 1 : Nat) : Int) by omega] at hB2
                  clear hB
                  go_wp2_with fail
                  (with_reducible refine (kh _ hM.xa).mono ?_); rintro e w6 ⟨rfl, t6⟩
                  have hM6 := hM.turn t6 (Aw.heard_inv _ hM.xi _ _ _)
                  clear hM t6 kh hcl c0 u0 t3 t2
                  go_wp2_with fail
                  (with_reducible refine (next_any _ gm _ hM6.xa hM6.xi).mono ?_); rintro e w7 ⟨rfl, t7⟩
                  have hM7 := hM6.turn t7 (Aw.next_inv _ hM6.xi)
                  clear hM6 t7
                  go_wp2_with fail
                  go_roundw
                  case rel => exact ⟨j + 1, _, by omega, by go_num, hM7, hB2⟩
                  case measure => simp [intOf]; omega
              · have t2 : decide ((j : Int) < n0 + 1) = false := by simpa using hjl
                have hjn : (j : Int) = n0 + 1 := by omega
                rw [hjn] at hB
                have hF2 := Aw.bst_few hB hSb (by omega) (by omega)
                have y1 := hM.xi.t1
                have y2 := hM.xi.t2
                have y3 := hB.nw
                have y4 := hB.n1
                have y5 := hB.sp
                have t4 : decide (n0 + 1 + g + u < Y.spent - sp) = false := by simp; omega
                clear hB
                have ks := fun w h => stat_any Y gm w h
                unfold stat at ks
                go_wp2_with fail
                (with_reducible refine (ks _ hM.xa).mono ?_); rintro e w8 ⟨rfl, b8⟩
                have hM8 := hM.below b8
                clear hM b8 ks t2
                have c0 := Blk.cell hM8.xc 0 (v := .int .i64 u) rfl
                have c1 := Blk.cell hM8.xc 1 (v := .int .i64 g) rfl
                go_wp2_with fail
                rw [← HX.out] at hF2
                go_roundw
                case rel => exact ⟨k + 1, Y, Y.spent, by omega, rfl, by go_num, hM8, hF2⟩
                case measure => simp [intOf]; omega
    · have t0 : decide ((k : Int) < G.length) = false := by simp; omega
      go_wp2_with fail
      have ks := fun w h => stat_any X gm w h
      unfold stat at ks
      rw [hF.ms] at ks
      (with_reducible refine (ks _ hM.xa).mono ?_); rintro e w2 ⟨rfl, b2⟩
      have hM2 := hM.below b2
      clear ks hM b2 p0 t0
      go_wp2_with fail
      (with_reducible refine (example_any _).mono ?_); rintro e w3 ⟨rfl, b3⟩
      go_wp2
      go_ret
      exact ⟨rfl, hM2.be.trans (b3.mono hM2.be.size)⟩
end Go.Proofs.Ytknjnpagbpjlkaa.AwFew
