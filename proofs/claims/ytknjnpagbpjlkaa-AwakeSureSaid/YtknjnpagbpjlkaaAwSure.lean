/- The walk over AwakeSure. -/
import Derived.Test.YtknjnpagbpjlkaaAwF
import Derived.Test.YtknjnpagbpjlkaaAwSureP
import Derived.Test.YtknjnpagbpjlkaaAwAt
import Derived.Test.YtknjnpagbpjlkaaAwV
import Derived.Deep.RegionHeld3
import Derived.Deep.AppendLies
import Derived.Deep.LoopGhost
namespace Go.Proofs.Ytknjnpagbpjlkaa.AwSure
open Go.RowKit Go.Proofs.Ytknjnpagbpjlkaa.Q Go.Proofs.Ytknjnpagbpjlkaa.Mem Go.Proofs.Ytknjnpagbpjlkaa.AwA Go.Proofs.Ytknjnpagbpjlkaa.AwB Go.Proofs.Ytknjnpagbpjlkaa.AwC Go.Proofs.Ytknjnpagbpjlkaa.AwD Go.Proofs.Ytknjnpagbpjlkaa.AwE Go.Proofs.Ytknjnpagbpjlkaa.AwF Go.Proofs.Ytknjnpagbpjlkaa.AwR Go.Proofs.Ytknjnpagbpjlkaa.AwT Go.Proofs.Ytknjnpagbpjlkaa.AwV Go.Proofs.Ytknjnpagbpjlkaa.AwAt

theorem alloc_below {w w1 : World} (h : Below w.heap.size w w1) (o : Obj) : Below w.heap.size w (w1.alloc o) := h.alloc h.size o
theorem tstay {W W' : World} {B9 g : Nat} {t : TypeId} {cs : Array Value} (h : Blk W B9 t cs) (t6 : W.grownBy W' (some g)) (hne : B9 ≠ g) : Blk W' B9 t cs := Blk.grown h t6 (by intro e; injection e with e; exact hne e)
theorem bturn {w W W' : World} {g : Nat} {m : Aw.M} (h : Below w.heap.size w W) (t : Turned W W' g m) (hg : w.heap.size ≤ g) : Below w.heap.size w W' := h.trans (below_of_only t.only h.size (fun k hk => by cases hk; exact hg))


/-- the machine, and the boxes -/
structure Mp (w W : World) (s gm : Nat) (A : Aw.M) (cs ps : Array Value) : Prop where
  xa : At W gm A
  xi : A.Inv
  xc : Blk W s 23 cs
  xp : Blk W (s + 1) 47 ps
  xn : s + 1 < gm
  w0 : w.heap.size = s
  be : Below w.heap.size w W
section
variable {w W W' : World} {s gm : Nat} {A X : Aw.M} {cs ps : Array Value}
theorem Mp.turn (h : Mp w W s gm A cs ps) (t : Turned W W' gm X) (hi : X.Inv) : Mp w W' s gm X cs ps :=
  ⟨t.at_, hi, tstay h.xc t.only (by have := h.xn; omega), tstay h.xp t.only (by have := h.xn; omega), h.xn, h.w0, bturn h.be t (by have := h.xn; have := h.w0; omega)⟩
theorem Mp.below (h : Mp w W s gm A cs ps) (hb : Below W.heap.size W W') : Mp w W' s gm A cs ps :=
  ⟨Blk.below h.xa hb (Blk.lt h.xa), h.xi, Blk.below h.xc hb (Blk.lt h.xc), Blk.below h.xp hb (Blk.lt h.xp), h.xn, h.w0, h.be.trans (hb.mono h.be.size)⟩
end

theorem at_anyI (a : Option Addr) (zs : List Int) (k cap : Nat) (B : Int) (w : World) (hB : 1 ≤ B) (hB' : B ≤ 1048576) {z : Int} (hk : z = k) (hz : Ints w a zs) :
    Calls Try.prog 22 #[.slice a zs.length cap, .int .i64 z, .int .i64 B] w fun e w' => e = .returned (.int .i64 (atv zs k B)) ∧ w = w' := by
  rw [hk]
  exact at_any a zs k cap B w hB hB' hz


theorem info3 : (Try.prog.info? 3).map (fun i => (i.zero, i.size, i.bytes)) = some (some (.int .i64 0), 1, 8) := by kernel_rfl

/-- where bursts begin, and how long they are -/
def begin_ (G L : List Int) (b : Int) : Nat → Int
  | 0 => atv G 0 300
  | k + 1 => begin_ G L b k + (atv L k b + 1) + atv G (k + 1) 300
def slot_ (G L : List Int) (b : Int) : Nat → Int
  | 0 => 0
  | k + 1 => begin_ G L b k + (atv L k b + 1)
theorem slot_begin (G L : List Int) (b : Int) (k : Nat) : slot_ G L b k + atv G k 300 = begin_ G L b k := by
  cases k with
  | zero => exact Int.zero_add _
  | succ k => rfl
theorem slot_bounds (G L : List Int) (b : Int) (hb : 1 ≤ b) (hb' : b ≤ 40) (k : Nat) : 0 ≤ slot_ G L b k ∧ slot_ G L b k ≤ 339 * k := by
  induction k with
  | zero => simp [slot_]
  | succ k ih =>
    have h1 := slot_begin G L b k
    have h2 := atv_bounds G k 300 (by omega)
    have h3 := atv_bounds L k b hb
    show 0 ≤ begin_ G L b k + (atv L k b + 1) ∧ _ ≤ _
    have e : slot_ G L b (k + 1) = begin_ G L b k + (atv L k b + 1) := rfl
    omega
def begins (G L : List Int) (b : Int) (k : Nat) : List Value := (List.range k).map fun i => Value.int .i64 (begin_ G L b i)
def longs (L : List Int) (b : Int) (k : Nat) : List Value := (List.range k).map fun i => Value.int .i64 (atv L i b + 1)
theorem begins_succ (G L : List Int) (b : Int) (k : Nat) : begins G L b (k + 1) = begins G L b k ++ [.int .i64 (begin_ G L b k)] := by simp [begins, List.range_succ]
theorem longs_succ (L : List Int) (b : Int) (k : Nat) : longs L b (k + 1) = longs L b k ++ [.int .i64 (atv L k b + 1)] := by simp [longs, List.range_succ]
/-- the two slices that the call makes -/
structure Rws (W : World) (gm : Nat) (v7 v8 : Value) (k j : Nat) (G L : List Int) (b : Int) : Prop where
  a : W.ownsRow (gm + 1) 3 1 v7 k (begins G L b k)
  b : W.ownsRow (gm + 1) 3 1 v8 j (longs L b j)
  ne : ∀ g, v7.ownBlock = some g → v8.ownBlock ≠ some g
section
variable {w W W' : World} {s gm k j : Nat} {A : Aw.M} {cs ps : Array Value} {v7 v8 : Value} {G L : List Int} {b : Int} {o : Obj}
theorem Mp.grow {row : Option Nat} (h : Mp w W s gm A cs ps) (t : W.grownBy W' row) (hr : ∀ r, row = some r → gm < r) : Mp w W' s gm A cs ps :=
  ⟨Blk.grown h.xa t (fun e => by have := hr gm e.symm; omega), h.xi, Blk.grown h.xc t (fun e => by have := hr _ e.symm; have := h.xn; omega), Blk.grown h.xp t (fun e => by have := hr _ e.symm; have := h.xn; omega), h.xn, h.w0, h.be.trans (below_of_only t h.be.size (fun r e => by have := hr r e; have := h.xn; have := h.w0; omega))⟩
theorem Rws.turn (h : Rws W gm v7 v8 k j G L b) {X : Aw.M} (t : Turned W W' gm X) : Rws W' gm v7 v8 k j G L b :=
  ⟨h.a.kept t.only (Or.inr fun e => by have := (h.a.lt gm e).1; omega), h.b.kept t.only (Or.inr fun e => by have := (h.b.lt gm e).1; omega), h.ne⟩
theorem Rws.below (h : Rws W gm v7 v8 k j G L b) (hb : Below W.heap.size W W') : Rws W' gm v7 v8 k j G L b := by
  have hg : W.grownBy W' none := only_of_below hb none
  refine ⟨h.a.kept hg ?_, h.b.kept hg ?_, h.ne⟩
  · cases h' : v7.ownBlock with
    | none => exact Or.inl rfl
    | some r => exact Or.inr (by simp)
  · cases h' : v8.ownBlock with
    | none => exact Or.inl rfl
    | some r => exact Or.inr (by simp)
/-- what the two slices look like, and where their cells lie -/
theorem Rws.form (h : Rws W gm v7 v8 k k G L b) : ∃ a7 c7 a8 c8, v7 = .slice a7 k c7 ∧ v8 = .slice a8 k c8 ∧ (0 < k → ∃ g7 g8, a7 = some ⟨g7, 0, none⟩ ∧ a8 = some ⟨g8, 0, none⟩) := by
  by_cases hk : 0 < k
  · obtain ⟨g7, c7, h7, _, _⟩ := h.a.form hk
    obtain ⟨g8, c8, h8, _, _⟩ := h.b.form hk
    exact ⟨_, c7, _, c8, h7, h8, fun _ => ⟨g7, g8, rfl, rfl⟩⟩
  · obtain rfl : k = 0 := by omega
    have e7 : ∃ a7 c7, v7 = .slice a7 0 c7 := by
      rcases h.a.2 with ⟨e, _⟩ | ⟨g, cap, _, e, _⟩
      · exact ⟨_, _, e⟩
      · exact ⟨_, _, e⟩
    have e8 : ∃ a8 c8, v8 = .slice a8 0 c8 := by
      rcases h.b.2 with ⟨e, _⟩ | ⟨g, cap, _, e, _⟩
      · exact ⟨_, _, e⟩
      · exact ⟨_, _, e⟩
    obtain ⟨a7, c7, rfl⟩ := e7
    obtain ⟨a8, c8, rfl⟩ := e8
    exact ⟨a7, c7, a8, c8, rfl, rfl, fun h => absurd h (by omega)⟩
theorem begins_get (G L : List Int) (b : Int) {k i : Nat} (hi : i < k) : (begins G L b k)[i]? = some (.int .i64 (begin_ G L b i)) := by simp [begins, hi]
theorem longs_get (L : List Int) (b : Int) {k i : Nat} (hi : i < k) : (longs L b k)[i]? = some (.int .i64 (atv L i b + 1)) := by simp [longs, hi]
theorem Rws.at7 {g7 c7 : Nat} (h : Rws W gm (.slice (some ⟨g7, 0, none⟩) k c7) v8 k j G L b) {i : Nat} (hi : i < k) : W.cell? ⟨g7, i, none⟩ = some (.int .i64 (begin_ G L b i)) :=
  (h.a.cellAt i (by omega)).trans (begins_get G L b hi)
theorem Rws.at8 {g8 c8 : Nat} (h : Rws W gm v7 (.slice (some ⟨g8, 0, none⟩) j c8) k j G L b) {i : Nat} (hi : i < j) : W.cell? ⟨g8, i, none⟩ = some (.int .i64 (atv L i b + 1)) :=
  (h.b.cellAt i (by omega)).trans (longs_get L b hi)
theorem Rws.one (h : Rws W gm v7 v8 k k G L b) {g cap : Nat} {xs : List Value} (hx : xs = begins G L b (k + 1)) (hown : W'.ownsRow (gm + 1) 3 1 (.slice (some ⟨g, 0, none⟩) (k + 1) cap) (k + 1) xs)
    (hg : (W.alloc o).grownBy W' v7.ownBlock) (hat : v7.ownBlock = some g ∨ g = (W.alloc o).heap.size) : Rws W' gm (.slice (some ⟨g, 0, none⟩) (k + 1) cap) v8 (k + 1) k G L b := by
  refine ⟨hx ▸ hown, (h.b.alloc o).kept hg ?_, ?_⟩
  · cases h' : v7.ownBlock with
    | none => cases h8 : v8.ownBlock with
      | none => exact Or.inl rfl
      | some r => exact Or.inr (by simp)
    | some r => exact Or.inr (h.ne r h')
  · intro r hr e8
    have hr' : g = r := by simpa [Value.ownBlock] using hr
    subst hr'
    rcases hat with hat | hat
    · exact h.ne g hat e8
    · have := (h.b.lt g e8).2
      simp at hat
      omega
theorem Rws.two (h : Rws W gm v7 v8 (k + 1) k G L b) {g cap : Nat} {xs : List Value} (hx : xs = longs L b (k + 1)) (hown : W'.ownsRow (gm + 1) 3 1 (.slice (some ⟨g, 0, none⟩) (k + 1) cap) (k + 1) xs)
    (hg : (W.alloc o).grownBy W' v8.ownBlock) (hat : v8.ownBlock = some g ∨ g = (W.alloc o).heap.size) : Rws W' gm v7 (.slice (some ⟨g, 0, none⟩) (k + 1) cap) (k + 1) (k + 1) G L b := by
  refine ⟨(h.a.alloc o).kept hg ?_, hx ▸ hown, ?_⟩
  · cases h' : v7.ownBlock with
    | none => exact Or.inl rfl
    | some r => exact Or.inr (fun e => h.ne r h' e.symm)
  · intro r hr e8
    have hr' : g = r := by simpa [Value.ownBlock] using e8
    subst hr'
    rcases hat with hat | hat
    · exact h.ne g hr hat
    · have := (h.a.lt g hr).2
      simp at hat
      omega
end

set_option maxRecDepth 100000 in
set_option maxHeartbeats 4000000 in
theorem sure_no (u g b p : Int) (ga la : Option Addr) (gc lc : Nat) (fa : Option Addr) (fc : Nat) (G L F : List Int) (w : World)
    (h : ¬ (Aw.cfg u g b p = true ∧ u ≤ 40 ∧ g ≤ 40 ∧ b ≤ 40 ∧ G.length ≤ 12)) :
        Calls Try.prog 4 #[.agg #[.int .i64 u, .int .i64 g, .int .i64 b, .int .i64 p], .agg #[.slice ga G.length gc, .slice la L.length lc, .slice fa F.length fc]] w fun e w' => e = .returned (.bool true) ∧ Below w.heap.size w w' := by
  have k1 := lmay_any u g b p
  by_cases hc : Aw.cfg u g b p = true
  · rw [hc] at k1
    have h' : ¬ (u ≤ 40 ∧ g ≤ 40 ∧ b ≤ 40 ∧ G.length ≤ 12) := fun hh => h ⟨hc, hh⟩
    have H := Lib.hid h'
    clear h h' hc
    go_enter Try.func4, Try.ntmps4
    go_wp2_with fail
    (with_reducible refine (k1 _).mono ?_); rintro e w1 ⟨rfl, rfl⟩
    go_wp2_with fail
    all_goals first
      | ((with_reducible refine (example_any _).mono ?_); rintro e w2 ⟨rfl, b2⟩; go_wp2; go_ret; exact ⟨rfl, (alloc_below (alloc_below (alloc_below (Below.refl _ _) _) _) _).trans (b2.mono (by simp <;> omega))⟩)
      | (exfalso; have := H.out; omega)
  · have hc' : Aw.cfg u g b p = false := by simpa using hc
    rw [hc'] at k1
    clear h hc hc'
    go_enter Try.func4, Try.ntmps4
    go_wp2_with fail
    (with_reducible refine (k1 _).mono ?_); rintro e w1 ⟨rfl, rfl⟩
    go_wp2_with fail
    (with_reducible refine (example_any _).mono ?_); rintro e w2 ⟨rfl, b2⟩
    go_wp2
    go_ret
    exact ⟨rfl, (alloc_below (alloc_below (alloc_below (Below.refl _ _) _) _) _).trans (b2.mono (by simp <;> omega))⟩





set_option maxRecDepth 100000 in
set_option maxHeartbeats 4000000 in
theorem sure_yes (u g b p : Int) (ga la : Option Addr) (gc lc : Nat) (fa : Option Addr) (fc : Nat) (G L F : List Int) (w : World)
    (hu : -9223372036854775808 ≤ u ∧ u ≤ 9223372036854775807) (hg : -9223372036854775808 ≤ g ∧ g ≤ 9223372036854775807) (hb : -9223372036854775808 ≤ b ∧ b ≤ 9223372036854775807) (hp : -9223372036854775808 ≤ p ∧ p ≤ 9223372036854775807)
    (hG : Ints w ga G) (hL : Ints w la L) (hF : Ints w fa F)
    (hc : Aw.cfg u g b p = true) (hu' : u ≤ 40) (hg' : g ≤ 40) (hb' : b ≤ 40) (hl : G.length ≤ 12) :
        Calls Try.prog 4 #[.agg #[.int .i64 u, .int .i64 g, .int .i64 b, .int .i64 p], .agg #[.slice ga G.length gc, .slice la L.length lc, .slice fa F.length fc]] w fun e w' => e = .returned (.bool true) ∧ Below w.heap.size w w' := by
  have k1 := lmay_any u g b p
  rw [hc] at k1
  have k3 := fun w => new_ok u g b p w hu hg hb hp hc
  have hi := Aw.inv_start hc
  have hcf : 1 ≤ u ∧ 0 ≤ g ∧ 1 ≤ b ∧ 1 ≤ p := by simp only [Aw.cfg, decide_eq_true_eq] at hc; omega
  have hbp : b ≤ p := by simp only [Aw.cfg, decide_eq_true_eq] at hc; omega
  have f0 : ∀ (x0 x1 x2 x3 x4 x5 : Value) w, (Instr.field 50 (.agg #[x0, x1, x2, x3, x4, x5]) 0).run Try.prog w = .ok x0 w := fun _ _ _ _ _ _ _ => by kernel_rfl
  have f4 : ∀ (x0 x1 x2 x3 x4 x5 : Value) w, (Instr.field 50 (.agg #[x0, x1, x2, x3, x4, x5]) 4).run Try.prog w = .ok x4 w := fun _ _ _ _ _ _ _ => by kernel_rfl
  have f5 : ∀ (x0 x1 x2 x3 x4 x5 : Value) w, (Instr.field 50 (.agg #[x0, x1, x2, x3, x4, x5]) 5).run Try.prog w = .ok x5 w := fun _ _ _ _ _ _ _ => by kernel_rfl
  have e1 : decide (40 < u) = false := by simp; omega
  have e2 : decide (40 < g) = false := by simp; omega
  have e3 : decide (40 < b) = false := by simp; omega
  have e4 : decide (12 < (G.length : Int)) = false := by simp; omega
  have HG := Lib.hid hG
  have HL := Lib.hid hL
  have HFi := Lib.hid hF
  clear hc hG hL hF
  go_enter Try.func4, Try.ntmps4
  go_wp2_with fail
  (with_reducible refine (k1 _).mono ?_); rintro e w1 ⟨rfl, rfl⟩
  clear k1
  go_wp2_with fail
  (with_reducible refine (k3 _).mono ?_); rintro e w1 ⟨gm, hgm, rfl, ma, b1⟩
  clear e1 e2 e3 e4 k3
  have hM : Mp w w1 w.heap.size gm (Aw.start u g b p) #[.int .i64 u, .int .i64 g, .int .i64 b, .int .i64 p] #[.slice ga G.length gc, .slice la L.length lc, .slice fa F.length fc] :=
    ⟨ma, hi, Blk.below (Blk.alloc (Blk.alloc (Blk.new w _ _) _) _) b1 (by simp <;> omega), Blk.below (Blk.alloc (Blk.newAt _ _ _ (by simp)) _) b1 (by simp <;> omega), by simp at hgm; omega, rfl, (alloc_below (alloc_below (alloc_below (Below.refl _ _) _) _) _).trans (b1.mono (by simp <;> omega))⟩
  clear ma b1 hgm hi
  go_wp2_with fail
  obtain ⟨i0, hi0, hz0, hz1, hz2⟩ := info_parts info3
  go_loopw [7, 8, 9, 10] (fun v7 v8 sv i wr => ∃ k : Nat, k ≤ G.length ∧ sv = .int .i64 (slot_ G L b k) ∧ i = .int .i64 k ∧ Mp w wr w.heap.size gm (Aw.start u g b p) #[.int .i64 u, .int .i64 g, .int .i64 b, .int .i64 p] #[.slice ga G.length gc, .slice la L.length lc, .slice fa F.length fc] ∧ Rws wr gm v7 v8 k k G L b) (fun _ _ _ i _ => G.length - (intOf i).toNat)
  case atStart => exact ⟨0, by omega, rfl, rfl, hM, ⟨World.ownsRow_nil _ _ _ _, World.ownsRow_nil _ _ _ _, fun g h => by cases h⟩⟩
  case round =>
    clear hM
    obtain ⟨k, hk, rfl, rfl, hM, hR⟩ := hrel
    have p0 := Blk.cell hM.xp 0 (v := .slice ga G.length gc) rfl
    by_cases hkl : k < G.length
    · have t0 : decide ((k : Int) < G.length) = true := by simp; omega
      have p1 := Blk.cell hM.xp 1 (v := .slice la L.length lc) rfl
      have c2 := Blk.cell hM.xc 2 (v := .int .i64 b) rfl
      have hGr := HG.out.below (Nat.le_refl _) hM.be
      have hLr := HL.out.below (Nat.le_refl _) hM.be
      have HB := Lib.hid (slot_begin G L b k)
      have hs := slot_bounds G L b (by omega) hb' k
      obtain ⟨sl, hsl⟩ : ∃ sl, slot_ G L b k = sl := ⟨_, rfl⟩
      obtain ⟨ln, hln⟩ : ∃ n0, atv L k b = n0 := ⟨_, rfl⟩
      have hnb := atv_bounds L k b (by omega)
      have kn := fun w h => at_any la L k lc b w (by omega) (by omega) h
      rw [hln] at kn hnb
      obtain ⟨gp, hgp⟩ : ∃ gp, atv G k 300 = gp := ⟨_, rfl⟩
      have hgb := atv_bounds G k 300 (by omega)
      have kg := fun w h => at_any ga G k gc 300 w (by omega) (by omega) h
      rw [hgp] at kg hgb
      have HL1 := Lib.hid hln
      have HB1 := Lib.hid (show begin_ G L b k = sl + gp by rw [← slot_begin, hsl, hgp])
      rw [hsl] at hs
      rw [hsl]
      clear hgp hln hsl HB
      go_wp2_with fail
      (with_reducible refine (kg _ hGr).mono ?_); rintro e w2 ⟨rfl, rfl⟩
      clear kg
      go_wp2_with fail
      (with_reducible refine (kn _ hLr).mono ?_); rintro e w2 ⟨rfl, rfl⟩
      clear kn p1 c2 t0 hGr hLr
      go_wp2_with (first | (at_builtin; refine wpList_append_lies _ rfl _ _ 45 rfl (gm + 1) 3 i0 (.int .i64 0) 1 8 Try.underlying45 hi0 hz0 hz1 hz2 rfl (by decide) _ _ _ rfl (hR.a.alloc _) ⟨wr.heap.size, 0, none⟩ 1 1 [.int .i64 (sl + gp)] rfl rfl ?c1 ?c2 (by decide) ?c3 ?c4 ?c5 _ rfl ?_) | fail)
      case c1 =>
        intro j x hj
        match j, hj with
        | 0, hj => simp at hj; subst hj; simp [Addr.add]
      case c2 => intro x hx; simp at hx; subst hx; rfl
      case c3 => unfold maxLen; omega
      case c4 => omega
      case c5 => have := Blk.lt hM.xa; simp; omega
      intro g7 cap7 w7 hown7 hgrow7 hat7 _
      have hR7 := hR.one (by rw [begins_succ, HB1.out]) hown7 hgrow7 (by simpa using hat7)
      have hM7 := (hM.below (alloc_below (Below.refl _ _) _)).grow hgrow7 (fun r hr => (hR.a.lt r hr).1)
      clear hR hM hown7 hgrow7 hat7 p0
      go_wp2_with (first | (at_builtin; refine wpList_append_lies _ rfl _ _ 45 rfl (gm + 1) 3 i0 (.int .i64 0) 1 8 Try.underlying45 hi0 hz0 hz1 hz2 rfl (by decide) _ _ _ rfl (hR7.b.alloc _) ⟨w7.heap.size, 0, none⟩ 1 1 [.int .i64 (ln + 1)] rfl rfl ?c1 ?c2 (by decide) ?c3 ?c4 ?c5 _ rfl ?_) | fail)
      case c1 =>
        intro j x hj
        match j, hj with
        | 0, hj => simp at hj; subst hj; simp [Addr.add]
      case c2 => intro x hx; simp at hx; subst hx; rfl
      case c3 => unfold maxLen; omega
      case c4 => omega
      case c5 => have := Blk.lt hM7.xa; simp; omega
      intro g8 cap8 w8 hown8 hgrow8 hat8 _
      have hR8 := hR7.two (by rw [longs_succ, HL1.out]) hown8 hgrow8 (by simpa using hat8)
      have hM8 := (hM7.below (alloc_below (Below.refl _ _) _)).grow hgrow8 (fun r hr => (hR7.b.lt r hr).1)
      clear hR7 hM7 hown8 hgrow8 hat8
      have HS := Lib.hid (show sl + gp + (ln + 1) = slot_ G L b (k + 1) by rw [← HB1.out, ← HL1.out]; rfl)
      go_wp2_with fail
      go_roundw
      case rel => exact ⟨k + 1, by omega, by rw [← HS.out], by go_num, hM8, hR8⟩
      case measure => simp [intOf]; omega
    · obtain rfl : k = G.length := by omega
      have t0 : decide ((G.length : Int) < G.length) = false := by simp
      obtain ⟨a7, c7, a8, c8, rfl, rfl, hlie⟩ := hR.form
      go_wp2_with fail
      clear t0 p0 hk hkl
      go_loopw [12, 13] (fun hv i wr => ∃ (k : Nat) (X : Aw.M) (hd : Bool), k ≤ G.length ∧ hv = .bool hd ∧ i = .int .i64 k ∧ Mp w wr w.heap.size gm X #[.int .i64 u, .int .i64 g, .int .i64 b, .int .i64 p] #[.slice ga G.length gc, .slice la L.length lc, .slice fa F.length fc] ∧ Rws wr gm (.slice a7 G.length c7) (.slice a8 G.length c8) G.length G.length G L b ∧ X.missed = 0 ∧ (k < G.length → Aw.Gap X hd (begin_ G L b k) u g b p)) (fun _ i _ => G.length - (intOf i).toNat)
      case atStart => exact ⟨0, _, false, by omega, rfl, rfl, hM, hR, rfl, fun _ => Aw.gap_start (by have := slot_begin G L b 0; have := atv_bounds G 0 300 (by omega); have := slot_bounds G L b (by omega) hb' 0; omega) (by have := slot_begin G L b 0; have := atv_bounds G 0 300 (by omega); have := slot_bounds G L b (by omega) hb' 0; omega)⟩
      case round =>
        clear hM hR
        obtain ⟨k, X, hd, hk, rfl, rfl, hM, hR, hms, hgap⟩ := hrel
        by_cases hkl : k < G.length
        · obtain ⟨g7, g8, rfl, rfl⟩ := hlie (by omega)
          have hG1 := hgap hkl
          clear hgap hms
          have t0 : decide (k < G.length) = true := by simpa using hkl
          have hlm := Blk.lt hM.xp
          have h7 := (hR.a.lt g7 rfl).2
          have h8 := (hR.b.lt g8 rfl).2
          obtain ⟨S, hS⟩ : ∃ S, begin_ G L b k = S := ⟨_, rfl⟩
          obtain ⟨n0, hn0⟩ : ∃ n0, atv L k b = n0 := ⟨_, rfl⟩
          have hnb := atv_bounds L k b (by omega)
          have z7 := hR.at7 hkl
          have z8 := hR.at8 hkl
          rw [hS] at z7 hG1
          rw [hn0] at z8 hnb
          have y7 := fun p => cell_ext h7 z7 p
          have y8 := fun p => cell_ext h8 z8 p
          have p2 := fun p => Blk.cell (blk_ext hM.xp p) 2 (v := .slice fa F.length fc) rfl
          obtain ⟨f, hf⟩ : ∃ f, atv F k (n0 + 1) = f := ⟨_, rfl⟩
          have hfb := atv_bounds F k (n0 + 1) (by omega)
          have kf := fun p => at_any fa F k fc (n0 + 1) (ext wr p) (by omega) (by omega) (HFi.out.below (Nat.le_refl _) (hM.be.trans ((below_ext wr p).mono hM.be.size)))
          rw [hf] at kf hfb
          have HS := Lib.hid hS
          have HN := Lib.hid hn0
          clear hf hS hn0
          go_wp2_with fail
          refine Go.Proofs.Ytknjnpagbpjlkaa.Q.region_ext (by kernel_rfl) (by kernel_rfl) ?_
          repeat (go_big_quiet_step ((go_at_call 22; refine ext_call_same (kf _))))
          refine wpQuiet_nil ?_
          rintro w9 ⟨pq, rfl⟩
          go_wp2_with fail
          refine wp_gen (fun W => Mp w W w.heap.size gm X #[.int .i64 u, .int .i64 g, .int .i64 b, .int .i64 p] #[.slice ga G.length gc, .slice la L.length lc, .slice fa F.length fc] ∧ Rws W gm (.slice (some ⟨g7, 0, none⟩) G.length c7) (.slice (some ⟨g8, 0, none⟩) G.length c8) G.length G.length G L b) ⟨hM.below (below_ext wr pq), hR.below (below_ext wr pq)⟩ ?_
          intro W ⟨hM1, hR1⟩
          clear hM hR kf y7 y8 p2 z7 z8 h7 h8 hlm
          have h7 := (hR1.a.lt g7 rfl).2
          have h8 := (hR1.b.lt g8 rfl).2
          have z7 := hR1.at7 hkl
          have z8 := hR1.at8 hkl
          rw [HS.out] at z7
          rw [HN.out] at z8
          have y7 := fun p => cell_ext h7 z7 p
          have y8 := fun p => cell_ext h8 z8 p
          have l1 := hG1.nw
          have l2 := hG1.n0
          have l3 := hG1.n1
          refine Go.Proofs.Ytknjnpagbpjlkaa.Q.region_ext (by kernel_rfl) (by kernel_rfl) ?_
          repeat (go_big_quiet_step (fail))
          refine wpQuiet_nil ?_
          rintro w9 ⟨pq, rfl⟩
          have hM2 := hM1.below (below_ext W pq)
          have hR2 := hR1.below (below_ext W pq)
          have hSb : 0 ≤ S ∧ S ≤ 339 * k + 300 := by
            have h1 := slot_bounds G L b (by omega) hb' k
            have h2 := slot_begin G L b k
            have h3 := atv_bounds G k 300 (by omega)
            rw [HS.out] at h2
            omega
          clear hM1 hR1 z7 z8 y7 y8 h7 h8 t0 l1 l2 l3
          by_cases hk1 : k + 1 < G.length
          · have t1 : decide (k + 1 < G.length) = true := by simpa using hk1
            have t5 : decide ((k : Int) + 1 < (G.length : Int)) = true := by simp; omega
            have z9 := hR2.at7 hk1
            obtain ⟨nx, hnx⟩ : ∃ nx, begin_ G L b (k + 1) = nx := ⟨_, rfl⟩
            have hxb : S + (n0 + 1) ≤ nx ∧ nx ≤ S + (n0 + 1) + 300 := by
              have := atv_bounds G (k + 1) 300 (by omega)
              have e : begin_ G L b (k + 1) = begin_ G L b k + (atv L k b + 1) + atv G (k + 1) 300 := rfl
              rw [HS.out, HN.out, hnx] at e
              omega
            rw [hnx] at z9
            have HX := Lib.hid hnx
            clear hnx
            go_wp2_with fail
            clear t1 t5 z9
            refine wp_gen (fun W => Mp w W w.heap.size gm X #[.int .i64 u, .int .i64 g, .int .i64 b, .int .i64 p] #[.slice ga G.length gc, .slice la L.length lc, .slice fa F.length fc] ∧ Rws W gm (.slice (some ⟨g7, 0, none⟩) G.length c7) (.slice (some ⟨g8, 0, none⟩) G.length c8) G.length G.length G L b) ⟨hM2, hR2⟩ ?_
            intro W1 ⟨hM, hR⟩
            clear hM2 hR2
            go_loopg [] (S - X.now).toNat (fun q wi => ∃ Y : Aw.M, q = (S - Y.now).toNat ∧ Mp w wi w.heap.size gm Y #[.int .i64 u, .int .i64 g, .int .i64 b, .int .i64 p] #[.slice ga G.length gc, .slice la L.length lc, .slice fa F.length fc] ∧ Rws wi gm (.slice (some ⟨g7, 0, none⟩) G.length c7) (.slice (some ⟨g8, 0, none⟩) G.length c8) G.length G.length G L b ∧ Aw.Gap Y hd S u g b p)
            case atStart => exact ⟨X, rfl, hM, hR, hG1⟩
            case round =>
              clear hM hR hG1
              obtain ⟨Y, hq, hM, hR, hG1⟩ := hrel
              have z7 := hR.at7 hkl
              rw [HS.out] at z7
              have h7 := (hR.a.lt g7 rfl).2
              have y7 := fun p => cell_ext h7 z7 p
              have ks := fun p => stat_any Y gm (ext wr p) (blk_ext hM.xa p)
              unfold stat at ks
              have HQ := Lib.hid hq
              clear hq z7
              by_cases hlt : Y.now < S
              · have t1 : decide (Y.now < S) = true := by simpa using hlt
                obtain ⟨hG7, hN7⟩ := Aw.gap_next hG1 hlt (by omega)
                have HN7 := Lib.hid hN7
                clear hN7
                go_wp2_with fail
                refine Go.Proofs.Ytknjnpagbpjlkaa.Q.region_ext (by kernel_rfl) (by kernel_rfl) ?_
                repeat (go_big_quiet_step ((go_at_call 23; refine ext_call (ks _))))
                refine wpQuiet_nil ?_
                rintro w9 ⟨pq2, rfl⟩
                have hM5 := hM.below (below_ext wr pq2)
                have hR5 := hR.below (below_ext wr pq2)
                clear hM hR ks y7 h7
                go_wp2_with fail
                (with_reducible refine (next_any Y gm _ hM5.xa hM5.xi).mono ?_); rintro e w7 ⟨rfl, t7⟩
                have hM7 := hM5.turn t7 (Aw.next_inv _ hM5.xi)
                have hR7 := hR5.turn t7
                clear hM5 hR5 t7
                go_wp2_with fail
                go_roundg (S - Y.next.now).toNat
                case rel => exact ⟨_, rfl, hM7, hR7, hG7⟩
                case measure => rw [HQ.out, HN7.out]; omega
              · have t1 : decide (Y.now < S) = false := by simpa using hlt
                go_wp2_with fail
                refine Go.Proofs.Ytknjnpagbpjlkaa.Q.region_ext (by kernel_rfl) (by kernel_rfl) ?_
                repeat (go_big_quiet_step ((go_at_call 23; refine ext_call (ks _))))
                refine wpQuiet_nil ?_
                rintro w9 ⟨pq2, rfl⟩
                have hM5 := hM.below (below_ext wr pq2)
                have hR5 := hR.below (below_ext wr pq2)
                clear hM hR ks y7 h7
                go_wp2_with fail
                clear t1
                refine wp_gen (fun W => Mp w W w.heap.size gm Y #[.int .i64 u, .int .i64 g, .int .i64 b, .int .i64 p] #[.slice ga G.length gc, .slice la L.length lc, .slice fa F.length fc] ∧ Rws W gm (.slice (some ⟨g7, 0, none⟩) G.length c7) (.slice (some ⟨g8, 0, none⟩) G.length c8) G.length G.length G L b) ⟨hM5, hR5⟩ ?_
                intro W2 ⟨hM, hR⟩
                clear hM5 hR5
                have hB := Aw.gap_bur (f := f) (n := n0 + 1) (nx := nx) hG1 (by omega) (by omega) (by omega)
                clear HQ hG1 hlt
                go_loopw [12, 16] (fun hv i wi => ∃ (j : Nat) (Y : Aw.M) (h2 : Bool), (j : Int) ≤ n0 + 1 ∧ hv = .bool h2 ∧ i = .int .i64 j ∧ Mp w wi w.heap.size gm Y #[.int .i64 u, .int .i64 g, .int .i64 b, .int .i64 p] #[.slice ga G.length gc, .slice la L.length lc, .slice fa F.length fc] ∧ Rws wi gm (.slice (some ⟨g7, 0, none⟩) G.length c7) (.slice (some ⟨g8, 0, none⟩) G.length c8) G.length G.length G L b ∧ Aw.Bur Y h2 S j f (n0 + 1) nx u g b p) (fun _ i _ => (n0 + 1).toNat - (intOf i).toNat)
                case atStart => exact ⟨0, _, hd, by omega, rfl, rfl, hM, hR, hB⟩
                case round =>
                  clear hM hR hB
                  obtain ⟨j, Y, h2, hj, rfl, rfl, hM, hR, hB⟩ := hrel
                  have z8 := hR.at8 hkl
                  rw [HN.out] at z8
                  by_cases hjl : (j : Int) < n0 + 1
                  · have t2 : decide ((j : Int) < n0 + 1) = true := by simpa using hjl
                    have z7 := hR.at7 hkl
                    rw [HS.out] at z7
                    have hst : (Y.state != 2) = true := by simpa using Aw.bur_awake hB (by omega) hjl
                    have ka := fun w h => awake_any Y gm w h
                    rw [hst] at ka
                    have ks := fun w h => stat_any Y gm w h
                    unfold stat at ks
                    rw [hB.nw] at ks
                    clear hst
                    cases h2
                    · go_wp2_with fail
                      clear z7 z8 t2
                      (with_reducible refine (ks _ hM.xa).mono ?_); rintro e w9 ⟨rfl, b9⟩
                      have hM6 := hM.below b9
                      have hR6 := hR.below b9
                      have z7 := hR6.at7 hkl
                      rw [HS.out] at z7
                      clear hM hR ks b9
                      have z8 := hR6.at8 hkl
                      rw [HN.out] at z8
                      have c0 := Blk.cell hM6.xc 0 (v := .int .i64 u) rfl
                      have u0 : (u == 0) = false := by simp; omega
                      by_cases hjf : f ≤ (j : Int)
                      · have t3 : decide (f ≤ (j : Int)) = true := by simpa using hjf
                        have hcl := Aw.ceil_facts (t := nx - (S + j)) (u := u) (by omega) (by omega) (by omega) hu'
                        unfold Aw.ceil at hcl
                        by_cases hlast : (j : Int) + 1 = n0 + 1
                        · have t4 : ((j : Int) == n0) = true := by simp; omega
                          have kh := fun w h => heard_any Y gm ((nx - (S + j) + u - 1).tdiv u) 0 false true w h hM6.xi
                          rw [Aw.hear0 (Aw.bur_awake hB (by omega) hjl) hcl.1 hcl.2.1] at kh
                          go_wp2_with fail
                          skip
                          have hB2 := Aw.bur_last hB (by omega) hjf hlast (by omega) (by omega) hxb.1 (by omega) (by omega) hu' (by omega) (by omega)
                          unfold Aw.ceil at hB2
                          rw [show (j : Int) + 1 = ((j + 1 : Nat) : Int) by omega] at hB2
                          (with_reducible refine (kh _ hM6.xa).mono ?_); rintro e w6 ⟨rfl, t6⟩
                          have hM7 := hM6.turn t6 (Aw.heard_inv _ hM6.xi _ _ _)
                          have hR7 := hR6.turn t6
                          clear hM6 hR6 t6 kh
                          go_wp2_with fail
                          (with_reducible refine (next_any _ gm _ hM7.xa hM7.xi).mono ?_); rintro e w7 ⟨rfl, t7⟩
                          have hM8 := hM7.turn t7 (Aw.next_inv _ hM7.xi)
                          have hR8 := hR7.turn t7
                          clear hM7 hR7 t7
                          go_wp2_with fail
                          go_roundw
                          case rel => exact ⟨j + 1, _, true, by omega, rfl, by go_num, hM8, hR8, hB2⟩
                          case measure => simp [intOf]; omega
                        · have t4 : ((j : Int) == n0) = false := by simp; omega
                          have kh := fun w h => heard_any Y gm ((nx - (S + j) + u - 1).tdiv u) 0 false false w h hM6.xi
                          rw [Aw.hear0 (Aw.bur_awake hB (by omega) hjl) hcl.1 hcl.2.1] at kh
                          go_wp2_with fail
                          skip
                          have hB2 := Aw.bur_mid hB (by omega) (by omega) hjf (by omega) (by omega) (by omega) hxb.1 (by omega) (by omega) hu'
                          unfold Aw.ceil at hB2
                          rw [show (j : Int) + 1 = ((j + 1 : Nat) : Int) by omega] at hB2
                          (with_reducible refine (kh _ hM6.xa).mono ?_); rintro e w6 ⟨rfl, t6⟩
                          have hM7 := hM6.turn t6 (Aw.heard_inv _ hM6.xi _ _ _)
                          have hR7 := hR6.turn t6
                          clear hM6 hR6 t6 kh
                          go_wp2_with fail
                          (with_reducible refine (next_any _ gm _ hM7.xa hM7.xi).mono ?_); rintro e w7 ⟨rfl, t7⟩
                          have hM8 := hM7.turn t7 (Aw.next_inv _ hM7.xi)
                          have hR8 := hR7.turn t7
                          clear hM7 hR7 t7
                          go_wp2_with fail
                          go_roundw
                          case rel => exact ⟨j + 1, _, true, by omega, rfl, by go_num, hM8, hR8, hB2⟩
                          case measure => simp [intOf]; omega
                      · have t3 : decide (f ≤ (j : Int)) = false := by simpa using hjf
                        have hB2 := Aw.bur_skip hB (by omega) (by omega) (by omega) (by omega) hb' hbp
                        rw [show (j : Int) + 1 = ((j + 1 : Nat) : Int) by omega] at hB2
                        go_wp2_with fail
                        skip
                        (with_reducible refine (next_any _ gm _ hM6.xa hM6.xi).mono ?_); rintro e w7 ⟨rfl, t7⟩
                        have hM8 := hM6.turn t7 (Aw.next_inv _ hM6.xi)
                        have hR8 := hR6.turn t7
                        clear hM6 hR6 t7 z7 c0 u0
                        go_wp2_with fail
                        go_roundw
                        case rel => exact ⟨j + 1, _, _, by omega, rfl, by go_num, hM8, hR8, hB2⟩
                        case measure => simp [intOf]; omega
                    · go_wp2_with fail
                      clear z7 z8 t2
                      (with_reducible refine (ks _ hM.xa).mono ?_); rintro e w9 ⟨rfl, b9⟩
                      have hM6 := hM.below b9
                      have hR6 := hR.below b9
                      have z7 := hR6.at7 hkl
                      rw [HS.out] at z7
                      clear hM hR ks b9
                      have z8 := hR6.at8 hkl
                      rw [HN.out] at z8
                      have c0 := Blk.cell hM6.xc 0 (v := .int .i64 u) rfl
                      have u0 : (u == 0) = false := by simp; omega
                      by_cases hjf : f ≤ (j : Int)
                      · have t3 : decide (f ≤ (j : Int)) = true := by simpa using hjf
                        have hcl := Aw.ceil_facts (t := nx - (S + j)) (u := u) (by omega) (by omega) (by omega) hu'
                        unfold Aw.ceil at hcl
                        by_cases hlast : (j : Int) + 1 = n0 + 1
                        · have t4 : ((j : Int) == n0) = true := by simp; omega
                          have kh := fun w h => heard_any Y gm ((nx - (S + j) + u - 1).tdiv u) 0 false true w h hM6.xi
                          rw [Aw.hear0 (Aw.bur_awake hB (by omega) hjl) hcl.1 hcl.2.1] at kh
                          go_wp2_with fail
                          ((with_reducible refine (ka _ hM6.xa).mono ?_); rintro e w6 ⟨rfl, rfl⟩; go_wp2_with fail)
                          have hB2 := Aw.bur_last hB (by omega) hjf hlast (by omega) (by omega) hxb.1 (by omega) (by omega) hu' (by omega) (by omega)
                          unfold Aw.ceil at hB2
                          rw [show (j : Int) + 1 = ((j + 1 : Nat) : Int) by omega] at hB2
                          (with_reducible refine (kh _ hM6.xa).mono ?_); rintro e w6 ⟨rfl, t6⟩
                          have hM7 := hM6.turn t6 (Aw.heard_inv _ hM6.xi _ _ _)
                          have hR7 := hR6.turn t6
                          clear hM6 hR6 t6 kh
                          go_wp2_with fail
                          (with_reducible refine (next_any _ gm _ hM7.xa hM7.xi).mono ?_); rintro e w7 ⟨rfl, t7⟩
                          have hM8 := hM7.turn t7 (Aw.next_inv _ hM7.xi)
                          have hR8 := hR7.turn t7
                          clear hM7 hR7 t7
                          go_wp2_with fail
                          go_roundw
                          case rel => exact ⟨j + 1, _, true, by omega, rfl, by go_num, hM8, hR8, hB2⟩
                          case measure => simp [intOf]; omega
                        · have t4 : ((j : Int) == n0) = false := by simp; omega
                          have kh := fun w h => heard_any Y gm ((nx - (S + j) + u - 1).tdiv u) 0 false false w h hM6.xi
                          rw [Aw.hear0 (Aw.bur_awake hB (by omega) hjl) hcl.1 hcl.2.1] at kh
                          go_wp2_with fail
                          ((with_reducible refine (ka _ hM6.xa).mono ?_); rintro e w6 ⟨rfl, rfl⟩; go_wp2_with fail)
                          have hB2 := Aw.bur_mid hB (by omega) (by omega) hjf (by omega) (by omega) (by omega) hxb.1 (by omega) (by omega) hu'
                          unfold Aw.ceil at hB2
                          rw [show (j : Int) + 1 = ((j + 1 : Nat) : Int) by omega] at hB2
                          (with_reducible refine (kh _ hM6.xa).mono ?_); rintro e w6 ⟨rfl, t6⟩
                          have hM7 := hM6.turn t6 (Aw.heard_inv _ hM6.xi _ _ _)
                          have hR7 := hR6.turn t6
                          clear hM6 hR6 t6 kh
                          go_wp2_with fail
                          (with_reducible refine (next_any _ gm _ hM7.xa hM7.xi).mono ?_); rintro e w7 ⟨rfl, t7⟩
                          have hM8 := hM7.turn t7 (Aw.next_inv _ hM7.xi)
                          have hR8 := hR7.turn t7
                          clear hM7 hR7 t7
                          go_wp2_with fail
                          go_roundw
                          case rel => exact ⟨j + 1, _, true, by omega, rfl, by go_num, hM8, hR8, hB2⟩
                          case measure => simp [intOf]; omega
                      · have t3 : decide (f ≤ (j : Int)) = false := by simpa using hjf
                        have hB2 := Aw.bur_skip hB (by omega) (by omega) (by omega) (by omega) hb' hbp
                        rw [show (j : Int) + 1 = ((j + 1 : Nat) : Int) by omega] at hB2
                        go_wp2_with fail
                        ((with_reducible refine (ka _ hM6.xa).mono ?_); rintro e w6 ⟨rfl, rfl⟩; go_wp2_with fail)
                        (with_reducible refine (next_any _ gm _ hM6.xa hM6.xi).mono ?_); rintro e w7 ⟨rfl, t7⟩
                        have hM8 := hM6.turn t7 (Aw.next_inv _ hM6.xi)
                        have hR8 := hR6.turn t7
                        clear hM6 hR6 t7 z7 c0 u0
                        go_wp2_with fail
                        go_roundw
                        case rel => exact ⟨j + 1, _, _, by omega, rfl, by go_num, hM8, hR8, hB2⟩
                        case measure => simp [intOf]; omega
                  · have t2 : decide ((j : Int) < n0 + 1) = false := by simpa using hjl
                    have hjn : (j : Int) = n0 + 1 := by omega
                    rw [hjn] at hB
                    obtain rfl : h2 = true := Aw.bur_done hB
                    go_wp2_with fail
                    go_roundw
                    case rel => exact ⟨k + 1, Y, true, by omega, rfl, by go_num, hM, hR, hB.ms, (fun _ => by rw [HX.out]; exact Aw.bur_gap hB (by omega) hxb.1 (by omega))⟩
                    case measure => simp [intOf]; omega
          · have t1 : decide (k + 1 < G.length) = false := by simpa using hk1
            have t5 : decide ((k : Int) + 1 < (G.length : Int)) = false := by simp; omega
            have hxb : S + (n0 + 1) ≤ S + (n0 + 1) + 300 ∧ S + (n0 + 1) + 300 ≤ S + (n0 + 1) + 300 := ⟨by omega, by omega⟩
            go_wp2_with fail
            clear t1 t5
            refine wp_gen (fun W => Mp w W w.heap.size gm X #[.int .i64 u, .int .i64 g, .int .i64 b, .int .i64 p] #[.slice ga G.length gc, .slice la L.length lc, .slice fa F.length fc] ∧ Rws W gm (.slice (some ⟨g7, 0, none⟩) G.length c7) (.slice (some ⟨g8, 0, none⟩) G.length c8) G.length G.length G L b) ⟨hM2, hR2⟩ ?_
            intro W1 ⟨hM, hR⟩
            clear hM2 hR2
            go_loopg [] (S - X.now).toNat (fun q wi => ∃ Y : Aw.M, q = (S - Y.now).toNat ∧ Mp w wi w.heap.size gm Y #[.int .i64 u, .int .i64 g, .int .i64 b, .int .i64 p] #[.slice ga G.length gc, .slice la L.length lc, .slice fa F.length fc] ∧ Rws wi gm (.slice (some ⟨g7, 0, none⟩) G.length c7) (.slice (some ⟨g8, 0, none⟩) G.length c8) G.length G.length G L b ∧ Aw.Gap Y hd S u g b p)
            case atStart => exact ⟨X, rfl, hM, hR, hG1⟩
            case round =>
              clear hM hR hG1
              obtain ⟨Y, hq, hM, hR, hG1⟩ := hrel
              have z7 := hR.at7 hkl
              rw [HS.out] at z7
              have h7 := (hR.a.lt g7 rfl).2
              have y7 := fun p => cell_ext h7 z7 p
              have ks := fun p => stat_any Y gm (ext wr p) (blk_ext hM.xa p)
              unfold stat at ks
              have HQ := Lib.hid hq
              clear hq z7
              by_cases hlt : Y.now < S
              · have t1 : decide (Y.now < S) = true := by simpa using hlt
                obtain ⟨hG7, hN7⟩ := Aw.gap_next hG1 hlt (by omega)
                have HN7 := Lib.hid hN7
                clear hN7
                go_wp2_with fail
                refine Go.Proofs.Ytknjnpagbpjlkaa.Q.region_ext (by kernel_rfl) (by kernel_rfl) ?_
                repeat (go_big_quiet_step ((go_at_call 23; refine ext_call (ks _))))
                refine wpQuiet_nil ?_
                rintro w9 ⟨pq2, rfl⟩
                have hM5 := hM.below (below_ext wr pq2)
                have hR5 := hR.below (below_ext wr pq2)
                clear hM hR ks y7 h7
                go_wp2_with fail
                (with_reducible refine (next_any Y gm _ hM5.xa hM5.xi).mono ?_); rintro e w7 ⟨rfl, t7⟩
                have hM7 := hM5.turn t7 (Aw.next_inv _ hM5.xi)
                have hR7 := hR5.turn t7
                clear hM5 hR5 t7
                go_wp2_with fail
                go_roundg (S - Y.next.now).toNat
                case rel => exact ⟨_, rfl, hM7, hR7, hG7⟩
                case measure => rw [HQ.out, HN7.out]; omega
              · have t1 : decide (Y.now < S) = false := by simpa using hlt
                go_wp2_with fail
                refine Go.Proofs.Ytknjnpagbpjlkaa.Q.region_ext (by kernel_rfl) (by kernel_rfl) ?_
                repeat (go_big_quiet_step ((go_at_call 23; refine ext_call (ks _))))
                refine wpQuiet_nil ?_
                rintro w9 ⟨pq2, rfl⟩
                have hM5 := hM.below (below_ext wr pq2)
                have hR5 := hR.below (below_ext wr pq2)
                clear hM hR ks y7 h7
                go_wp2_with fail
                clear t1
                refine wp_gen (fun W => Mp w W w.heap.size gm Y #[.int .i64 u, .int .i64 g, .int .i64 b, .int .i64 p] #[.slice ga G.length gc, .slice la L.length lc, .slice fa F.length fc] ∧ Rws W gm (.slice (some ⟨g7, 0, none⟩) G.length c7) (.slice (some ⟨g8, 0, none⟩) G.length c8) G.length G.length G L b) ⟨hM5, hR5⟩ ?_
                intro W2 ⟨hM, hR⟩
                clear hM5 hR5
                have hB := Aw.gap_bur (f := f) (n := n0 + 1) (nx := (S + (n0 + 1) + 300)) hG1 (by omega) (by omega) (by omega)
                clear HQ hG1 hlt
                go_loopw [12, 16] (fun hv i wi => ∃ (j : Nat) (Y : Aw.M) (h2 : Bool), (j : Int) ≤ n0 + 1 ∧ hv = .bool h2 ∧ i = .int .i64 j ∧ Mp w wi w.heap.size gm Y #[.int .i64 u, .int .i64 g, .int .i64 b, .int .i64 p] #[.slice ga G.length gc, .slice la L.length lc, .slice fa F.length fc] ∧ Rws wi gm (.slice (some ⟨g7, 0, none⟩) G.length c7) (.slice (some ⟨g8, 0, none⟩) G.length c8) G.length G.length G L b ∧ Aw.Bur Y h2 S j f (n0 + 1) (S + (n0 + 1) + 300) u g b p) (fun _ i _ => (n0 + 1).toNat - (intOf i).toNat)
                case atStart => exact ⟨0, _, hd, by omega, rfl, rfl, hM, hR, hB⟩
                case round =>
                  clear hM hR hB
                  obtain ⟨j, Y, h2, hj, rfl, rfl, hM, hR, hB⟩ := hrel
                  have z8 := hR.at8 hkl
                  rw [HN.out] at z8
                  by_cases hjl : (j : Int) < n0 + 1
                  · have t2 : decide ((j : Int) < n0 + 1) = true := by simpa using hjl
                    have z7 := hR.at7 hkl
                    rw [HS.out] at z7
                    have hst : (Y.state != 2) = true := by simpa using Aw.bur_awake hB (by omega) hjl
                    have ka := fun w h => awake_any Y gm w h
                    rw [hst] at ka
                    have ks := fun w h => stat_any Y gm w h
                    unfold stat at ks
                    rw [hB.nw] at ks
                    clear hst
                    cases h2
                    · go_wp2_with fail
                      clear z7 z8 t2
                      (with_reducible refine (ks _ hM.xa).mono ?_); rintro e w9 ⟨rfl, b9⟩
                      have hM6 := hM.below b9
                      have hR6 := hR.below b9
                      have z7 := hR6.at7 hkl
                      rw [HS.out] at z7
                      clear hM hR ks b9
                      have z8 := hR6.at8 hkl
                      rw [HN.out] at z8
                      have c0 := Blk.cell hM6.xc 0 (v := .int .i64 u) rfl
                      have u0 : (u == 0) = false := by simp; omega
                      by_cases hjf : f ≤ (j : Int)
                      · have t3 : decide (f ≤ (j : Int)) = true := by simpa using hjf
                        have hcl := Aw.ceil_facts (t := (S + (n0 + 1) + 300) - (S + j)) (u := u) (by omega) (by omega) (by omega) hu'
                        unfold Aw.ceil at hcl
                        by_cases hlast : (j : Int) + 1 = n0 + 1
                        · have t4 : ((j : Int) == n0) = true := by simp; omega
                          have kh := fun w h => heard_any Y gm (((S + (n0 + 1) + 300) - (S + j) + u - 1).tdiv u) 0 false true w h hM6.xi
                          rw [Aw.hear0 (Aw.bur_awake hB (by omega) hjl) hcl.1 hcl.2.1] at kh
                          go_wp2_with fail
                          skip
                          have hB2 := Aw.bur_last hB (by omega) hjf hlast (by omega) (by omega) hxb.1 (by omega) (by omega) hu' (by omega) (by omega)
                          unfold Aw.ceil at hB2
                          rw [show (j : Int) + 1 = ((j + 1 : Nat) : Int) by omega] at hB2
                          (with_reducible refine (kh _ hM6.xa).mono ?_); rintro e w6 ⟨rfl, t6⟩
                          have hM7 := hM6.turn t6 (Aw.heard_inv _ hM6.xi _ _ _)
                          have hR7 := hR6.turn t6
                          clear hM6 hR6 t6 kh
                          go_wp2_with fail
                          (with_reducible refine (next_any _ gm _ hM7.xa hM7.xi).mono ?_); rintro e w7 ⟨rfl, t7⟩
                          have hM8 := hM7.turn t7 (Aw.next_inv _ hM7.xi)
                          have hR8 := hR7.turn t7
                          clear hM7 hR7 t7
                          go_wp2_with fail
                          go_roundw
                          case rel => exact ⟨j + 1, _, true, by omega, rfl, by go_num, hM8, hR8, hB2⟩
                          case measure => simp [intOf]; omega
                        · have t4 : ((j : Int) == n0) = false := by simp; omega
                          have kh := fun w h => heard_any Y gm (((S + (n0 + 1) + 300) - (S + j) + u - 1).tdiv u) 0 false false w h hM6.xi
                          rw [Aw.hear0 (Aw.bur_awake hB (by omega) hjl) hcl.1 hcl.2.1] at kh
                          go_wp2_with fail
                          skip
                          have hB2 := Aw.bur_mid hB (by omega) (by omega) hjf (by omega) (by omega) (by omega) hxb.1 (by omega) (by omega) hu'
                          unfold Aw.ceil at hB2
                          rw [show (j : Int) + 1 = ((j + 1 : Nat) : Int) by omega] at hB2
                          (with_reducible refine (kh _ hM6.xa).mono ?_); rintro e w6 ⟨rfl, t6⟩
                          have hM7 := hM6.turn t6 (Aw.heard_inv _ hM6.xi _ _ _)
                          have hR7 := hR6.turn t6
                          clear hM6 hR6 t6 kh
                          go_wp2_with fail
                          (with_reducible refine (next_any _ gm _ hM7.xa hM7.xi).mono ?_); rintro e w7 ⟨rfl, t7⟩
                          have hM8 := hM7.turn t7 (Aw.next_inv _ hM7.xi)
                          have hR8 := hR7.turn t7
                          clear hM7 hR7 t7
                          go_wp2_with fail
                          go_roundw
                          case rel => exact ⟨j + 1, _, true, by omega, rfl, by go_num, hM8, hR8, hB2⟩
                          case measure => simp [intOf]; omega
                      · have t3 : decide (f ≤ (j : Int)) = false := by simpa using hjf
                        have hB2 := Aw.bur_skip hB (by omega) (by omega) (by omega) (by omega) hb' hbp
                        rw [show (j : Int) + 1 = ((j + 1 : Nat) : Int) by omega] at hB2
                        go_wp2_with fail
                        skip
                        (with_reducible refine (next_any _ gm _ hM6.xa hM6.xi).mono ?_); rintro e w7 ⟨rfl, t7⟩
                        have hM8 := hM6.turn t7 (Aw.next_inv _ hM6.xi)
                        have hR8 := hR6.turn t7
                        clear hM6 hR6 t7 z7 c0 u0
                        go_wp2_with fail
                        go_roundw
                        case rel => exact ⟨j + 1, _, _, by omega, rfl, by go_num, hM8, hR8, hB2⟩
                        case measure => simp [intOf]; omega
                    · go_wp2_with fail
                      clear z7 z8 t2
                      (with_reducible refine (ks _ hM.xa).mono ?_); rintro e w9 ⟨rfl, b9⟩
                      have hM6 := hM.below b9
                      have hR6 := hR.below b9
                      have z7 := hR6.at7 hkl
                      rw [HS.out] at z7
                      clear hM hR ks b9
                      have z8 := hR6.at8 hkl
                      rw [HN.out] at z8
                      have c0 := Blk.cell hM6.xc 0 (v := .int .i64 u) rfl
                      have u0 : (u == 0) = false := by simp; omega
                      by_cases hjf : f ≤ (j : Int)
                      · have t3 : decide (f ≤ (j : Int)) = true := by simpa using hjf
                        have hcl := Aw.ceil_facts (t := (S + (n0 + 1) + 300) - (S + j)) (u := u) (by omega) (by omega) (by omega) hu'
                        unfold Aw.ceil at hcl
                        by_cases hlast : (j : Int) + 1 = n0 + 1
                        · have t4 : ((j : Int) == n0) = true := by simp; omega
                          have kh := fun w h => heard_any Y gm (((S + (n0 + 1) + 300) - (S + j) + u - 1).tdiv u) 0 false true w h hM6.xi
                          rw [Aw.hear0 (Aw.bur_awake hB (by omega) hjl) hcl.1 hcl.2.1] at kh
                          go_wp2_with fail
                          ((with_reducible refine (ka _ hM6.xa).mono ?_); rintro e w6 ⟨rfl, rfl⟩; go_wp2_with fail)
                          have hB2 := Aw.bur_last hB (by omega) hjf hlast (by omega) (by omega) hxb.1 (by omega) (by omega) hu' (by omega) (by omega)
                          unfold Aw.ceil at hB2
                          rw [show (j : Int) + 1 = ((j + 1 : Nat) : Int) by omega] at hB2
                          (with_reducible refine (kh _ hM6.xa).mono ?_); rintro e w6 ⟨rfl, t6⟩
                          have hM7 := hM6.turn t6 (Aw.heard_inv _ hM6.xi _ _ _)
                          have hR7 := hR6.turn t6
                          clear hM6 hR6 t6 kh
                          go_wp2_with fail
                          (with_reducible refine (next_any _ gm _ hM7.xa hM7.xi).mono ?_); rintro e w7 ⟨rfl, t7⟩
                          have hM8 := hM7.turn t7 (Aw.next_inv _ hM7.xi)
                          have hR8 := hR7.turn t7
                          clear hM7 hR7 t7
                          go_wp2_with fail
                          go_roundw
                          case rel => exact ⟨j + 1, _, true, by omega, rfl, by go_num, hM8, hR8, hB2⟩
                          case measure => simp [intOf]; omega
                        · have t4 : ((j : Int) == n0) = false := by simp; omega
                          have kh := fun w h => heard_any Y gm (((S + (n0 + 1) + 300) - (S + j) + u - 1).tdiv u) 0 false false w h hM6.xi
                          rw [Aw.hear0 (Aw.bur_awake hB (by omega) hjl) hcl.1 hcl.2.1] at kh
                          go_wp2_with fail
                          ((with_reducible refine (ka _ hM6.xa).mono ?_); rintro e w6 ⟨rfl, rfl⟩; go_wp2_with fail)
                          have hB2 := Aw.bur_mid hB (by omega) (by omega) hjf (by omega) (by omega) (by omega) hxb.1 (by omega) (by omega) hu'
                          unfold Aw.ceil at hB2
                          rw [show (j : Int) + 1 = ((j + 1 : Nat) : Int) by omega] at hB2
                          (with_reducible refine (kh _ hM6.xa).mono ?_); rintro e w6 ⟨rfl, t6⟩
                          have hM7 := hM6.turn t6 (Aw.heard_inv _ hM6.xi _ _ _)
                          have hR7 := hR6.turn t6
                          clear hM6 hR6 t6 kh
                          go_wp2_with fail
                          (with_reducible refine (next_any _ gm _ hM7.xa hM7.xi).mono ?_); rintro e w7 ⟨rfl, t7⟩
                          have hM8 := hM7.turn t7 (Aw.next_inv _ hM7.xi)
                          have hR8 := hR7.turn t7
                          clear hM7 hR7 t7
                          go_wp2_with fail
                          go_roundw
                          case rel => exact ⟨j + 1, _, true, by omega, rfl, by go_num, hM8, hR8, hB2⟩
                          case measure => simp [intOf]; omega
                      · have t3 : decide (f ≤ (j : Int)) = false := by simpa using hjf
                        have hB2 := Aw.bur_skip hB (by omega) (by omega) (by omega) (by omega) hb' hbp
                        rw [show (j : Int) + 1 = ((j + 1 : Nat) : Int) by omega] at hB2
                        go_wp2_with fail
                        ((with_reducible refine (ka _ hM6.xa).mono ?_); rintro e w6 ⟨rfl, rfl⟩; go_wp2_with fail)
                        (with_reducible refine (next_any _ gm _ hM6.xa hM6.xi).mono ?_); rintro e w7 ⟨rfl, t7⟩
                        have hM8 := hM6.turn t7 (Aw.next_inv _ hM6.xi)
                        have hR8 := hR6.turn t7
                        clear hM6 hR6 t7 z7 c0 u0
                        go_wp2_with fail
                        go_roundw
                        case rel => exact ⟨j + 1, _, _, by omega, rfl, by go_num, hM8, hR8, hB2⟩
                        case measure => simp [intOf]; omega
                  · have t2 : decide ((j : Int) < n0 + 1) = false := by simpa using hjl
                    have hjn : (j : Int) = n0 + 1 := by omega
                    rw [hjn] at hB
                    obtain rfl : h2 = true := Aw.bur_done hB
                    go_wp2_with fail
                    go_roundw
                    case rel => exact ⟨k + 1, Y, true, by omega, rfl, by go_num, hM, hR, hB.ms, (fun h => absurd h hk1)⟩
                    case measure => simp [intOf]; omega
        · have t0 : decide (k < G.length) = false := by simpa using hkl
          go_wp2_with fail
          have ks := fun w h => stat_any X gm w h
          unfold stat at ks
          rw [hms] at ks
          (with_reducible refine (ks _ hM.xa).mono ?_); rintro e w2 ⟨rfl, b2⟩
          have hM2 := hM.below b2
          clear ks hM b2 t0
          go_wp2_with fail
          (with_reducible refine (example_any _).mono ?_); rintro e w3 ⟨rfl, b3⟩
          go_wp2
          go_ret
          exact ⟨rfl, hM2.be.trans (b3.mono hM2.be.size)⟩
end Go.Proofs.Ytknjnpagbpjlkaa.AwSure
