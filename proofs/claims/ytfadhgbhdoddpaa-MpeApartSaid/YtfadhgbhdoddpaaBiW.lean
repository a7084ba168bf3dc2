/- bits, walked: a writer: one bit more. -/
import Derived.Test.YtfadhgbhdoddpaaSt
import Derived.Test.YtfadhgbhdoddpaaAp
import Derived.Test.YtfadhgbhdoddpaaBiP
import Derived.Outline
import Derived.RangeFuncBox
namespace Go.Proofs.Ytfadhgbhdoddpaa.BiW
open Go Go.RowKit Go.Proofs.Ytfadhgbhdoddpaa.Q Go.Proofs.Ytfadhgbhdoddpaa.Mem Go.Proofs.Ytfadhgbhdoddpaa.Rg Go.Proofs.Ytfadhgbhdoddpaa.Ap Go.Proofs.Ytfadhgbhdoddpaa.St Go.Proofs.Ytfadhgbhdoddpaa.BiP

def u8v (b : UInt8) : Value := .int .u8 (b.toNat : Int)
def u8s (l : List UInt8) : List Value := l.map u8v
/-- a writer at g: its bytes in a row from B on -/
structure OutV (w : World) (g B : Nat) (v : Value) (bits : List Bool) : Prop where
  blk : Blk w g 73 #[v, .int .i64 (bits.length : Int)]
  own : w.ownsRow B 5 1 v (pk bits).length (u8s (pk bits))
  gB : g < B
  bw : B ≤ w.heap.size
/-- only the writer, and its row, may have turned -/
structure Grow (g : Nat) (v : Value) (w : World) (v' : Value) (w' : World) : Prop where
  os : w'.os = w.os
  tape : w'.tape = w.tape
  output : w'.output = w.output
  size : w.heap.size ≤ w'.heap.size
  block : ∀ k, k < w.heap.size → k ≠ g → some k ≠ v.ownBlock → w'.heap[k]? = w.heap[k]?
  row : v'.ownBlock = v.ownBlock ∨ ∃ r, v'.ownBlock = some r ∧ w.heap.size ≤ r
theorem Grow.refl (g : Nat) (v : Value) (w : World) : Grow g v w v w := ⟨rfl, rfl, rfl, Nat.le_refl _, fun _ _ _ _ => rfl, Or.inl rfl⟩
theorem Grow.trans {g : Nat} {v v1 v2 : Value} {w w1 w2 : World} (h : Grow g v w v1 w1) (k : Grow g v1 w1 v2 w2) : Grow g v w v2 w2 := by
  refine ⟨k.os.trans h.os, k.tape.trans h.tape, k.output.trans h.output, Nat.le_trans h.size k.size, fun i hi hg hr => ?_, ?_⟩
  · refine (k.block i (Nat.lt_of_lt_of_le hi h.size) hg (fun e => ?_)).trans (h.block i hi hg hr)
    rcases h.row with e1 | ⟨r, e1, hl⟩
    · exact hr (by rw [← e1]; exact e)
    · rw [e1] at e; injection e with e; omega
  · rcases k.row with e2 | ⟨r, e2, hl⟩
    · rcases h.row with e1 | ⟨r, e1, hl⟩
      · exact Or.inl (e2.trans e1)
      · exact Or.inr ⟨r, e2.trans e1, hl⟩
    · exact Or.inr ⟨r, e2, Nat.le_trans h.size hl⟩
theorem Grow.other {g : Nat} {v v' : Value} {w w1 w2 : World} {row : Option Nat} (h : Grow g v w v' w1) (k : w1.grownBy w2 row) (hr : ∀ r, row = some r → w.heap.size ≤ r ∨ r = g ∨ v.ownBlock = some r) : Grow g v w v' w2 := by
  refine ⟨k.os.trans h.os, k.tape.trans h.tape, k.output.trans h.output, Nat.le_trans h.size k.size, fun i hi hg hv => ?_, h.row⟩
  refine (k.block i (Nat.lt_of_lt_of_le hi h.size) (fun e => ?_)).trans (h.block i hi hg hv)
  rcases hr i e.symm with h1 | h1 | h1
  · omega
  · exact hg h1
  · exact hv h1.symm
/-- seen from where the writer is not yet there -/
theorem Grow.below {g : Nat} {v v' : Value} {w w' : World} {B : Nat} (h : Grow g v w v' w') (hg : B ≤ g) (hr : ∀ r, v.ownBlock = some r → B ≤ r) (hB : B ≤ w.heap.size) : Below B w w' :=
  ⟨h.os, h.tape, h.output, h.size, fun k hk => h.block k (by omega) (by omega) (fun e => by have := hr k e.symm; omega)⟩
theorem OutV.other {w w' : World} {g B : Nat} {v : Value} {bits : List Bool} (h : OutV w g B v bits) {row : Option Nat} (k : w.grownBy w' row) (h1 : some g ≠ row) (h2 : ∀ r, row = some r → v.ownBlock ≠ some r) : OutV w' g B v bits :=
  ⟨h.blk.grown k h1, h.own.kept k (by
    cases row with
    | none => cases h' : v.ownBlock with
      | none => exact Or.inl rfl
      | some r => exact Or.inr (by simp)
    | some r => exact Or.inr (h2 r rfl)), h.gB, Nat.le_trans h.bw k.size⟩
theorem OutV.row {w : World} {g B : Nat} {v : Value} {bits : List Bool} (h : OutV w g B v bits) : ∀ r, v.ownBlock = some r → B ≤ r ∧ r < w.heap.size := fun r e => h.own.lt r e
theorem elemB : Elem Try.prog 40 5 1 1 := elem_of Try.underlying40 (z := .int .u8 0) (by kernel_rfl) rfl (by decide)
theorem u8s_len (l : List UInt8) : (u8s l).length = l.length := by simp [u8s]
theorem u8s_set (l : List UInt8) (i : Nat) (b : UInt8) : u8s (l.set i b) = (u8s l).set i (u8v b) := by simp [u8s, List.map_set]
theorem shl_u8 (b : Bool) (e : Nat) (he : e ≤ 7) : IntKind.u8.wrap ((nb b : Int) * 2 ^ e) = ((nb b * 2 ^ e : Nat) : Int) := by
  have h1 := nb_le b
  have h2 : 2 ^ e ≤ 2 ^ 7 := Nat.pow_le_pow_right (by decide) he
  have h3 : nb b * 2 ^ e ≤ 128 := by
    calc nb b * 2 ^ e ≤ 1 * 2 ^ e := Nat.mul_le_mul_right _ h1
      _ ≤ 128 := by omega
  rw [IntKind.wrap_u8]
  have : ((nb b : Int) * 2 ^ e) = ((nb b * 2 ^ e : Nat) : Int) := by simp
  rw [this]; omega
/-- the byte that is open has no bits below -/
theorem byteB_low (B : List Bool) : ∃ q, byteB B (B.length / 8) = q * 2 ^ (8 - B.length % 8) := by
  have z : ∀ j, B.length % 8 ≤ j → B.getD (8 * (B.length / 8) + j) false = false := fun j hj => getD_ge (by omega)
  have n0 : nb false = 0 := rfl
  obtain ⟨r, hr⟩ : ∃ r, B.length % 8 = r := ⟨_, rfl⟩
  have hr8 : r < 8 := by omega
  obtain ⟨i, hi⟩ : ∃ i, B.length / 8 = i := ⟨_, rfl⟩
  rw [hr, hi] at z
  rw [hi, hr]
  unfold byteB
  have h0 := nb_le (B.getD (8 * i) false)
  have zz : ∀ j, r ≤ j → nb (B.getD (8 * i + j) false) = 0 := fun j hj => by rw [z j hj]; rfl
  match r, hr8 with
  | 0, _ => exact ⟨0, by rw [zz 7 (by omega), zz 6 (by omega), zz 5 (by omega), zz 4 (by omega), zz 3 (by omega), zz 2 (by omega), zz 1 (by omega)]; have := zz 0 (by omega); rw [Nat.add_zero] at this; rw [this]⟩
  | 1, _ => exact ⟨nb (B.getD (8 * i) false), by rw [zz 7 (by omega), zz 6 (by omega), zz 5 (by omega), zz 4 (by omega), zz 3 (by omega), zz 2 (by omega), zz 1 (by omega)]; simp only [Nat.reduceSub, Nat.reducePow]; omega⟩
  | 2, _ => exact ⟨nb (B.getD (8 * i) false) * 2 + nb (B.getD (8 * i + 1) false), by rw [zz 7 (by omega), zz 6 (by omega), zz 5 (by omega), zz 4 (by omega), zz 3 (by omega), zz 2 (by omega)]; simp only [Nat.reduceSub, Nat.reducePow]; omega⟩
  | 3, _ => exact ⟨nb (B.getD (8 * i) false) * 4 + nb (B.getD (8 * i + 1) false) * 2 + nb (B.getD (8 * i + 2) false), by rw [zz 7 (by omega), zz 6 (by omega), zz 5 (by omega), zz 4 (by omega), zz 3 (by omega)]; simp only [Nat.reduceSub, Nat.reducePow]; omega⟩
  | 4, _ => exact ⟨nb (B.getD (8 * i) false) * 8 + nb (B.getD (8 * i + 1) false) * 4 + nb (B.getD (8 * i + 2) false) * 2 + nb (B.getD (8 * i + 3) false), by rw [zz 7 (by omega), zz 6 (by omega), zz 5 (by omega), zz 4 (by omega)]; simp only [Nat.reduceSub, Nat.reducePow]; omega⟩
  | 5, _ => exact ⟨nb (B.getD (8 * i) false) * 16 + nb (B.getD (8 * i + 1) false) * 8 + nb (B.getD (8 * i + 2) false) * 4 + nb (B.getD (8 * i + 3) false) * 2 + nb (B.getD (8 * i + 4) false), by rw [zz 7 (by omega), zz 6 (by omega), zz 5 (by omega)]; simp only [Nat.reduceSub, Nat.reducePow]; omega⟩
  | 6, _ => exact ⟨nb (B.getD (8 * i) false) * 32 + nb (B.getD (8 * i + 1) false) * 16 + nb (B.getD (8 * i + 2) false) * 8 + nb (B.getD (8 * i + 3) false) * 4 + nb (B.getD (8 * i + 4) false) * 2 + nb (B.getD (8 * i + 5) false), by rw [zz 7 (by omega), zz 6 (by omega)]; simp only [Nat.reduceSub, Nat.reducePow]; omega⟩
  | 7, _ => exact ⟨nb (B.getD (8 * i) false) * 64 + nb (B.getD (8 * i + 1) false) * 32 + nb (B.getD (8 * i + 2) false) * 16 + nb (B.getD (8 * i + 3) false) * 8 + nb (B.getD (8 * i + 4) false) * 4 + nb (B.getD (8 * i + 5) false) * 2 + nb (B.getD (8 * i + 6) false), by rw [zz 7 (by omega)]; simp only [Nat.reduceSub, Nat.reducePow]; omega⟩
theorem or_open (B : List Bool) (b : Bool) : bits .or .u8 (byteB B (B.length / 8) : Int) ((nb b * 2 ^ (7 - B.length % 8) : Nat) : Int) = ((byteB B (B.length / 8) + nb b * 2 ^ (7 - B.length % 8) : Nat) : Int) := by
  obtain ⟨q, hq⟩ := byteB_low B
  have hlt := byteB_lt B (B.length / 8)
  have h1 := nb_le b
  obtain ⟨e, he⟩ : ∃ e, 7 - B.length % 8 = e := ⟨_, rfl⟩
  have he2 : 8 - B.length % 8 = e + 1 := by omega
  rw [he2] at hq
  rw [he]
  have h2 : 2 ^ e ≤ 2 ^ 7 := Nat.pow_le_pow_right (by decide) (by omega)
  have h3 : nb b * 2 ^ e ≤ 1 * 2 ^ e := Nat.mul_le_mul_right _ h1
  have h4 : nb b * 2 ^ e < 2 ^ (e + 1) := by rw [Nat.pow_succ]; have : 0 < 2 ^ e := Nat.two_pow_pos e; omega
  have := (bits_nat .u8 8 (by decide) (fun n h1 h2 => by rw [IntKind.wrap_u8]; omega) (byteB B (B.length / 8)) (nb b * 2 ^ e) (by omega) (by omega)).2
  rw [this]
  have e2 := Nat.two_pow_add_eq_or_of_lt (i := e + 1) h4 q
  rw [hq, Nat.mul_comm q, ← e2]
theorem pkN_at (B : List Bool) (i n : Nat) (h : i < n) : (pkN B n)[i]? = some (UInt8.ofNat (byteB B i)) := by simp [pkN, h]
section
variable {P : Program} {ops : Array Oper} {rest : List Oper} {o : Oper} {a : Act} {w : World} {Q : Exit → Act → World → Prop}
/-- 'append(v, ..)', and where the new slice lies -/
theorem wpList_appG {t e : TypeId} {sz bytes base : Nat} (hgd : o.guard = none) (s x : Operand) (ho : o.op = .call { callee := .builtin .append, args := #[s, x], argTypes := #[t, t] }) (hE : Elem P t e sz bytes)
    {v : Value} {n m c : Nat} {xs news : List Value} {ad : Addr} (hs : a.eval s = v) (hown : w.ownsRow base e sz v n xs) (hx : a.eval x = .slice (some ad) m c) (hl : news.length = m * sz) (hnews : ∀ j u, news[j]? = some u → w.cell? (ad.add j) = some u) (h1 : ∀ u ∈ news, u.oneCell' = true)
    (hn : (n + m) * bytes ≤ 140737488355328) (hn2 : n + m ≤ maxLen) (hbase : base ≤ w.heap.size)
    (h : ∀ v' w', w'.ownsRow base e sz v' (n + m) (xs ++ news) → w.grownBy w' v.ownBlock → (v'.ownBlock = v.ownBlock ∨ v'.ownBlock = some w.heap.size) → wpList P ops Q rest (a.put o.dst v') w') : wpList P ops Q (o :: rest) a w := by
  obtain ⟨i, z, hi, hz, hsz, hby, hzs⟩ := hE.i
  obtain ⟨v', w', hr, h2, h3, _, h4⟩ := run_append_own_at (P := P) w base t o.type e i z sz bytes hE.t hi hz hsz hby hzs hE.pos v n xs hown ad m c news hl hnews h1 hn2 hn hbase
  refine wpList_plain hgd fun _ hK => ?_
  unfold Oper.wp execOp
  simp only [ho, resolve, invoke, builtin, Sem.run_bind, Sem.run_pure, Result.andThen_ok, List.map_toArray, List.map_cons, List.map_nil, hs, hx, hr]
  exact hK _ _ (h v' w' h2 h3 h4)
end
/-- a byte is open -/
structure OpenV (w : World) (g B r cap : Nat) (bits : List Bool) : Prop where
  blk : Blk w g 73 #[.slice (some ⟨r, 0, none⟩) (bits.length / 8 + 1) cap, .int .i64 (bits.length : Int)]
  own : w.ownsRow B 5 1 (.slice (some ⟨r, 0, none⟩) (bits.length / 8 + 1) cap) (bits.length / 8 + 1) (u8s (pkN bits (bits.length / 8 + 1)))
  gB : g < B
  bw : B ≤ w.heap.size
theorem open_close {w W : World} {g B r cap : Nat} {bits : List Bool} (b : Bool) {v : Value} (hO : OpenV W g B r cap bits) (hG : Grow g v w (.slice (some ⟨r, 0, none⟩) (bits.length / 8 + 1) cap) W) :
    OutV ((W.setCell ⟨r, bits.length / 8, none⟩ (.int .u8 ((byteB bits (bits.length / 8) + nb b * 2 ^ (7 - bits.length % 8) : Nat) : Int))).setCell ⟨g, 1, none⟩ (.int .i64 ((bits.length : Int) + 1))) g B (.slice (some ⟨r, 0, none⟩) (bits.length / 8 + 1) cap) (bits ++ [b]) ∧
    Grow g v w (.slice (some ⟨r, 0, none⟩) (bits.length / 8 + 1) cap) ((W.setCell ⟨r, bits.length / 8, none⟩ (.int .u8 ((byteB bits (bits.length / 8) + nb b * 2 ^ (7 - bits.length % 8) : Nat) : Int))).setCell ⟨g, 1, none⟩ (.int .i64 ((bits.length : Int) + 1))) := by
  obtain ⟨hB, hown, hgB, hbw⟩ := hO
  obtain ⟨hr1, hr2⟩ := hown.lt r rfl
  have hlt : byteB bits (bits.length / 8) + nb b * 2 ^ (7 - bits.length % 8) < 256 := by
    have := byteB_lt (bits ++ [b]) (bits.length / 8)
    rw [byteB_snoc, if_pos rfl] at this
    exact this
  have hu : Value.int .u8 ((byteB bits (bits.length / 8) + nb b * 2 ^ (7 - bits.length % 8) : Nat) : Int) = u8v (UInt8.ofNat (byteB bits (bits.length / 8) + nb b * 2 ^ (7 - bits.length % 8))) := by
    unfold u8v
    rw [UInt8.toNat_ofNat', Nat.mod_eq_of_lt hlt]
  have hcap : bits.length / 8 + 1 ≤ cap := by
    rcases hown.2 with ⟨h, _⟩ | ⟨g', cap', cur, h, _, _, hle, _⟩
    · cases h
    · simp at h; omega
  rw [hu]
  generalize hU : u8v (UInt8.ofNat (byteB bits (bits.length / 8) + nb b * 2 ^ (7 - bits.length % 8))) = U
  have g1 : W.grownBy (W.setCell ⟨r, bits.length / 8, none⟩ U) (some r) := only_set (only_refl _ _) _ _
  have h2 : (W.setCell ⟨r, bits.length / 8, none⟩ U).ownsRow B 5 1 (.slice (some ⟨r, 0, none⟩) (bits.length / 8 + 1) cap) (bits.length / 8 + 1) ((u8s (pkN bits (bits.length / 8 + 1))).set (bits.length / 8) U) := by
    rcases hown.2 with ⟨h, _⟩ | ⟨g', cap', cur, h, hb, hg, hle, hm, hcs, htk⟩
    · cases h
    · simp at h
      obtain ⟨rfl, rfl⟩ := h
      refine ⟨by simp [u8s_len, pkN_len], .inr ⟨r, cap, cur.setIfInBounds (bits.length / 8) U, rfl, hb, heap_setCell_same W r (bits.length / 8) cur _ U hg, hle, hm, by simpa using hcs, ?_⟩⟩
      rw [← htk, Array.toList_setIfInBounds]
      exact List.take_set ..
  have hpk : u8s (pk (bits ++ [b])) = (u8s (pkN bits (bits.length / 8 + 1))).set (bits.length / 8) U := by
    rw [pk_snoc, u8s_set, hU]
  have hlen : (pk (bits ++ [b])).length = bits.length / 8 + 1 := by rw [pk_len]; simp; omega
  have g2 : (W.setCell ⟨r, bits.length / 8, none⟩ U).grownBy ((W.setCell ⟨r, bits.length / 8, none⟩ U).setCell ⟨g, 1, none⟩ (.int .i64 ((bits.length : Int) + 1))) (some g) := only_set (only_refl _ _) _ _
  refine ⟨⟨?_, ?_, hgB, by simpa [World.setCell] using hbw⟩, ?_⟩
  · have := (hB.grown g1 (by simp; omega)).set_ 1 (.int .i64 ((bits.length : Int) + 1))
    simpa using this
  · rw [hlen, hpk]
    exact h2.kept g2 (Or.inr (by simp [Value.ownBlock]; omega))
  · refine (hG.other g1 (fun q e => ?_)).other g2 (fun q e => by injection e with e; exact Or.inr (Or.inl e.symm))
    injection e with e
    subst e
    rcases hG.row with h | ⟨q, h, hl⟩
    · exact Or.inr (Or.inr (h ▸ rfl))
    · simp [Value.ownBlock] at h; omega
theorem pkN_cell {w : World} {g B r cap : Nat} {bits : List Bool} (h : OpenV w g B r cap bits) : w.cell? ⟨r, bits.length / 8, none⟩ = some (.int .u8 (byteB bits (bits.length / 8) : Int)) ∧ w.frozen? ⟨r, bits.length / 8, none⟩ = false := by
  have hlt := byteB_lt bits (bits.length / 8)
  rcases h.own.2 with ⟨h', _⟩ | ⟨g', cap', cur, h', hb, hg, hle, hm, hcs, htk⟩
  · cases h'
  · simp at h'
    obtain ⟨rfl, rfl⟩ := h'
    constructor
    · rw [h.own.cellAt (bits.length / 8) (by omega)]
      simp [u8s, pkN, u8v]
      omega
    · simp [World.frozen?, hg]
set_option maxRecDepth 100000
set_option maxHeartbeats 1600000 in
theorem add_any (g B : Nat) (v : Value) (bits : List Bool) (b : Bool) (w : World) (hO : OutV w g B v bits) (hl : bits.length ≤ 8796093022208) :
    Calls Try.prog 60 #[.pointer (some ⟨g, 0, none⟩), .int .u8 (nb b : Int)] w fun e w' => e = .returned (.tuple #[]) ∧ ∃ v', OutV w' g B v' (bits ++ [b]) ∧ Grow g v w v' w' := by
  have HR := Lib.hid hO.row
  obtain ⟨hB, hown, hgB, hBw⟩ := hO
  have HS7 := Lib.hid (shl_u8 b (7 - bits.length % 8) (by omega))
  have HO7 := Lib.hid (or_open bits b)
  have HOC := Lib.hid (fun W r cap => @open_close w W g B r cap bits b v)
  by_cases h8 : bits.length % 8 = 0
  · have t1 : ((bits.length : Int) % 8 == 0) = true := by simp; omega
    have z0 : (0 : Int) ≤ (bits.length : Int) := by omega
    have z1 : (bits.length : Int) ≤ 8796093022208 := by omega
    obtain ⟨a, c, rfl⟩ := own_form hown
    have c0 := Blk.cell (hB) 0 (v := .slice a (pk bits).length c) rfl
    have c1 := Blk.cell (hB) 1 (v := .int .i64 (bits.length : Int)) rfl
    have f0 := Blk.frozen (hB) 0
    have f1 := Blk.frozen (hB) 1
    have hpl := pk_len bits
    have hml : (bits.length + 7) / 8 = bits.length / 8 := by omega
    have HP := Lib.hid (show u8s (pk bits) ++ [Value.int .u8 0] = u8s (pkN bits (bits.length / 8 + 1)) by rw [pkN_open, if_pos h8]; simp [u8s, u8v])
    have HL := Lib.hid (show (pk bits).length + 1 = bits.length / 8 + 1 by rw [hpl, hml])
    have HB := Lib.hid hB
    have hpl2 : (pk bits).length ≤ 1099511627776 := by omega
    clear hml hpl
    go_enter Try.func60, Try.ntmps60
    go_wp2_with (first
      | (at_builtin; go_loud (refine wpList_appG (v := .slice a (pk bits).length c) rfl _ _ rfl elemB rfl (hown.alloc (.cells #[.int .u8 0] 5)) rfl rfl (blk_news (Blk.new w 5 #[.int .u8 0])) (by simp [Value.oneCell']) (by omega) (by unfold maxLen; omega) (by simp; omega) ?_)
         intro v9 w8 hown9 hgr9 hat9
         have hB8 := (HB.out.alloc (.cells #[.int .u8 0] 5)).grown hgr9 (fun e => by have := (hown.lt g e.symm).1; omega)
         have d0 := Blk.cell hB8 0 (v := .slice a (pk bits).length c) rfl
         have d0f := Blk.frozen hB8 0
         obtain ⟨r, cap, rfl⟩ := ownsRow_succ hown9)
      | fail)
    refine wp_gen (fun W => OpenV W g B r cap bits ∧ Grow g (.slice a (pk bits).length c) w (.slice (some ⟨r, 0, none⟩) (bits.length / 8 + 1) cap) W) ?_ ?_
    · rw [HP.out, HL.out] at hown9
      rw [HL.out]
      have hrg := (hown9.lt r rfl).1
      have hg2 : w8.grownBy (w8.setCell ⟨g, 0, none⟩ (.slice (some ⟨r, 0, none⟩) (bits.length / 8 + 1) cap)) (some g) := only_set (only_refl _ _) _ _
      have hG8 : Grow g (.slice a (pk bits).length c) w (.slice (some ⟨r, 0, none⟩) (bits.length / 8 + 1) cap) w8 := ⟨hgr9.os, hgr9.tape, hgr9.output, Nat.le_trans (by simp) hgr9.size, fun k hk _ hr => (hgr9.block k (by simp; omega) hr).trans (Below.heap_alloc w _ k hk), by
        rcases hat9 with h | h
        · exact Or.inl h
        · exact Or.inr ⟨_, h, by simp⟩⟩
      refine ⟨⟨?_, hown9.kept hg2 (Or.inr (by simp [Value.ownBlock]; omega)), hgB, ?_⟩, hG8.other hg2 (fun q e => by injection e with e; exact Or.inr (Or.inl e.symm))⟩
      · exact hB8.set_ 0 (.slice (some ⟨r, 0, none⟩) (bits.length / 8 + 1) cap)
      · have := hgr9.size; simp at this; simp [World.setCell]; omega
    · rintro W ⟨hO2, hG2⟩
      obtain ⟨hcell, hfz⟩ := pkN_cell hO2
      have hB2 := hO2.blk
      have x0 := fun pX => Blk.cell (blk_ext (hB2) pX) 0 (v := .slice (some ⟨r, 0, none⟩) (bits.length / 8 + 1) cap) rfl
      have x1 := fun pX => Blk.cell (blk_ext (hB2) pX) 1 (v := .int .i64 (bits.length : Int)) rfl
      have xf0 := Blk.frozen (hB2) 0
      have xf1 := Blk.frozen (hB2) 1
      have cx := fun p => cell_ext (hO2.own.lt r rfl).2 hcell p
      have fx := fun p => (frozen_ext (w := W) (a := ⟨r, bits.length / 8, none⟩) (hO2.own.lt r rfl).2 p).trans hfz
      have HO2 := Lib.hid hO2
      have HG2 := Lib.hid hG2
      clear h8 t1 hB8 hown9 hgr9 hat9 d0 d0f c0 c1 f0 f1 hown hB hB2 hO2 hG2
      refine Go.Proofs.Ytfadhgbhdoddpaa.Q.region_ext_tail 23 (by kernel_rfl) (by kernel_rfl) ?_
      simp only [List.take_succ_cons, List.take_zero, List.drop_succ_cons, List.drop_zero]
      repeat (go_big_quiet_step (fail))
      refine wpQuiet_nil ?_
      rintro w9 ⟨pq, rfl⟩
      have hx := HO2.out
      have hO9 : OpenV (ext W pq) g B r cap bits := ⟨blk_ext hx.blk pq, own_below hx.own (below_ext _ pq), hx.gB, Nat.le_trans hx.bw (below_ext W pq).size⟩
      have hG9 := HG2.out.other (only_of_below (below_ext W pq) none) (fun q e => by cases e)
      have HF := Lib.hid (HOC.out _ r cap hO9 hG9)
      obtain ⟨hcell, hfz⟩ := pkN_cell hO9
      have hB9 := hO9.blk
      have c0 := Blk.cell (hB9) 0 (v := .slice (some ⟨r, 0, none⟩) (bits.length / 8 + 1) cap) rfl
      have c1 := Blk.cell (hB9) 1 (v := .int .i64 (bits.length : Int)) rfl
      have f0 := Blk.frozen (hB9) 0
      have f1 := Blk.frozen (hB9) 1
      have hne : g ≠ r := by have := (hO9.own.lt r rfl).1; omega
      clear x0 x1 xf0 xf1 cx fx hB9 hO9 hG9 hx
      go_wp2_with fail
      have e7 := HS7.out
      rw [IntKind.wrap_u8] at e7
      rw [e7, HO7.out]
      go_end0
      exact ⟨rfl, _, HF.out⟩
  · have t1 : ((bits.length : Int) % 8 == 0) = false := by simp; omega
    have z0 : (0 : Int) ≤ (bits.length : Int) := by omega
    have z1 : (bits.length : Int) ≤ 8796093022208 := by omega
    have hpl : (pk bits).length = bits.length / 8 + 1 := by rw [pk_len]; omega
    have hpk : pk bits = pkN bits (bits.length / 8 + 1) := by rw [pkN_open, if_neg h8]
    rw [hpl] at hown
    obtain ⟨r, cap, rfl⟩ := ownsRow_succ hown
    rw [hpk] at hown
    have HO1 := Lib.hid (show OpenV w g B r cap bits from ⟨hB, hown, hgB, hBw⟩)
    have c1 := Blk.cell hB 1 (v := .int .i64 (bits.length : Int)) rfl
    clear h8 hpl hpk hown hB
    go_enter Try.func60, Try.ntmps60
    go_wp2_with fail
    refine wp_gen (fun W => OpenV W g B r cap bits ∧ Grow g (.slice (some ⟨r, 0, none⟩) (bits.length / 8 + 1) cap) w (.slice (some ⟨r, 0, none⟩) (bits.length / 8 + 1) cap) W) ⟨HO1.out, Grow.refl _ _ _⟩ ?_
    rintro W ⟨hO2, hG2⟩
    obtain ⟨hcell, hfz⟩ := pkN_cell hO2
    have hB2 := hO2.blk
    have x0 := fun pX => Blk.cell (blk_ext (hB2) pX) 0 (v := .slice (some ⟨r, 0, none⟩) (bits.length / 8 + 1) cap) rfl
    have x1 := fun pX => Blk.cell (blk_ext (hB2) pX) 1 (v := .int .i64 (bits.length : Int)) rfl
    have xf0 := Blk.frozen (hB2) 0
    have xf1 := Blk.frozen (hB2) 1
    have cx := fun p => cell_ext (hO2.own.lt r rfl).2 hcell p
    have fx := fun p => (frozen_ext (w := W) (a := ⟨r, bits.length / 8, none⟩) (hO2.own.lt r rfl).2 p).trans hfz
    have HO2 := Lib.hid hO2
    have HG2 := Lib.hid hG2
    clear t1 c1 hB2 hO2 hG2
    refine Go.Proofs.Ytfadhgbhdoddpaa.Q.region_ext_tail 23 (by kernel_rfl) (by kernel_rfl) ?_
    simp only [List.take_succ_cons, List.take_zero, List.drop_succ_cons, List.drop_zero]
    repeat (go_big_quiet_step (fail))
    refine wpQuiet_nil ?_
    rintro w9 ⟨pq, rfl⟩
    have hx := HO2.out
    have hO9 : OpenV (ext W pq) g B r cap bits := ⟨blk_ext hx.blk pq, own_below hx.own (below_ext _ pq), hx.gB, Nat.le_trans hx.bw (below_ext W pq).size⟩
    have hG9 := HG2.out.other (only_of_below (below_ext W pq) none) (fun q e => by cases e)
    have HF := Lib.hid (HOC.out _ r cap hO9 hG9)
    obtain ⟨hcell, hfz⟩ := pkN_cell hO9
    have hB9 := hO9.blk
    have c0 := Blk.cell (hB9) 0 (v := .slice (some ⟨r, 0, none⟩) (bits.length / 8 + 1) cap) rfl
    have c1 := Blk.cell (hB9) 1 (v := .int .i64 (bits.length : Int)) rfl
    have f0 := Blk.frozen (hB9) 0
    have f1 := Blk.frozen (hB9) 1
    have hne : g ≠ r := by have := (hO9.own.lt r rfl).1; omega
    clear x0 x1 xf0 xf1 cx fx hB9 hO9 hG9 hx
    go_wp2_with fail
    have e7 := HS7.out
    rw [IntKind.wrap_u8] at e7
    rw [e7, HO7.out]
    go_end0
    exact ⟨rfl, _, HF.out⟩
end Go.Proofs.Ytfadhgbhdoddpaa.BiW
