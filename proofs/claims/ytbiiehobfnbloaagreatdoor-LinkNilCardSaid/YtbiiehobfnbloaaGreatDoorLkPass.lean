/- link.Pass: the packets, as they come. -/
import Derived.Test.YtbiiehobfnbloaaGreatDoorLkHarm
import Derived.Laws.EntriesVeiled
namespace Go.Proofs.YtbiiehobfnbloaaGreatDoor.LkPass
open Go.RowKit Go.Proofs.YtbiiehobfnbloaaGreatDoor.Q Go.Proofs.YtbiiehobfnbloaaGreatDoor.Mem Go.Proofs.YtbiiehobfnbloaaGreatDoor.PkCut Go.Proofs.YtbiiehobfnbloaaGreatDoor.LkHarm

/-- a harm -/
structure H where
  d : Int
  s : Int
  a : Int
  b : Int

/-- what becomes of the packets -/
def harm1 (A : List ByteArray) (h : H) : List ByteArray :=
  if 0 ≤ h.s ∧ h.s < A.length then
    (if h.d = 1 then A.set h.s.toNat ByteArray.empty
     else if h.d = 2 then (if 0 ≤ h.a ∧ h.a < (A[h.s.toNat]?.getD ByteArray.empty).size then A.set h.s.toNat (turnB (A[h.s.toNat]?.getD ByteArray.empty) h.a.toNat h.b) else A)
     else if h.d = 3 then (if 0 < h.s.toNat then A.set h.s.toNat (A[h.s.toNat - 1]?.getD ByteArray.empty) else A)
     else (if h.s.toNat + 1 < A.length then (A.set h.s.toNat (A[h.s.toNat + 1]?.getD ByteArray.empty)).set (h.s.toNat + 1) (A[h.s.toNat]?.getD ByteArray.empty) else A))
  else A
def may (h : H) : Prop := 1 ≤ h.d ∧ h.d ≤ 4
instance (h : H) : Decidable (may h) := by unfold may; infer_instance
def pass : List H → List ByteArray → Option (List ByteArray)
  | [], A => some A
  | h :: t, A => if may h then pass t (harm1 A h) else none
theorem pass_append (L M : List H) (A : List ByteArray) : pass (L ++ M) A = (pass L A).bind (pass M) := by
  induction L generalizing A with
  | nil => rfl
  | cons h t ih =>
    simp only [List.cons_append, pass]
    split
    · exact ih _
    · rfl
theorem pass_step {L : List H} {k : Nat} {h : H} {A A' : List ByteArray} (hk : L[k]? = some h) (hp : pass (L.take k) A = some A') (hm : may h) : pass (L.take (k + 1)) A = some (harm1 A' h) := by
  rw [List.take_add_one, hk, pass_append, hp]
  simp [pass, hm]
theorem pass_bad {L : List H} {k : Nat} {h : H} {A A' : List ByteArray} (hk : L[k]? = some h) (hp : pass (L.take k) A = some A') (hm : ¬ may h) : pass L A = none := by
  have e : L = L.take k ++ h :: L.drop (k + 1) := by
    have h1 := List.getElem?_eq_some_iff.1 hk
    obtain ⟨hlt, hh⟩ := h1
    rw [← hh, List.getElem_cons_drop]
    exact (List.take_append_drop k L).symm
  rw [e, pass_append, hp]
  simp [pass, hm]
theorem harm1_length (A : List ByteArray) (h : H) : (harm1 A h).length = A.length := by
  unfold harm1
  repeat' split
  all_goals simp
theorem pass_length {L : List H} {A A' : List ByteArray} (h : pass L A = some A') : A'.length = A.length := by
  induction L generalizing A with
  | nil => simp [pass] at h; rw [h]
  | cons x t ih =>
    simp only [pass] at h
    split at h
    · exact (ih h).trans (harm1_length _ _)
    · cases h

/-- a slice of harms that came in -/
def Harms (w : World) (a : Option Addr) (L : List H) : Prop := ∀ i h, L[i]? = some h → ∃ b o, a = some ⟨b, o, none⟩ ∧ b < w.heap.size ∧
  w.cell? ⟨b, o + i * 4, none⟩ = some (.int .i64 h.d) ∧ w.cell? ⟨b, o + i * 4 + 1, none⟩ = some (.int .i64 h.s) ∧ w.cell? ⟨b, o + i * 4 + 2, none⟩ = some (.int .i64 h.a) ∧ w.cell? ⟨b, o + i * 4 + 3, none⟩ = some (.int .u8 h.b) ∧
  (-9223372036854775808 ≤ h.d ∧ h.d ≤ 9223372036854775807) ∧ (-9223372036854775808 ≤ h.s ∧ h.s ≤ 9223372036854775807) ∧ (-9223372036854775808 ≤ h.a ∧ h.a ≤ 9223372036854775807) ∧ (0 ≤ h.b ∧ h.b < 256)
theorem Harms.below {w w' : World} {a : Option Addr} {L : List H} {B : Nat} (h : Harms w a L) (hB : w.heap.size ≤ B) (hb : Below B w w') : Harms w' a L := fun i x hi => by
  obtain ⟨b, o, e, hlt, c0, c1, c2, c3, r⟩ := h i x hi
  have hl : b < B := Nat.lt_of_lt_of_le hlt hB
  exact ⟨b, o, e, Nat.lt_of_lt_of_le hlt hb.size, (hb.cell (p := ⟨b, _, none⟩) hl).trans c0, (hb.cell (p := ⟨b, _, none⟩) hl).trans c1, (hb.cell (p := ⟨b, _, none⟩) hl).trans c2, (hb.cell (p := ⟨b, _, none⟩) hl).trans c3, r⟩

section
variable {A : List ByteArray} {x : H} {j n : Nat}
theorem harm1_in (hj : x.s = j) (hl : A.length = n) (hjn : j < n) : harm1 A x =
    (if x.d = 1 then A.set j ByteArray.empty
     else if x.d = 2 then (if 0 ≤ x.a ∧ x.a < (A[j]?.getD ByteArray.empty).size then A.set j (turnB (A[j]?.getD ByteArray.empty) x.a.toNat x.b) else A)
     else if x.d = 3 then (if 0 < j then A.set j (A[j - 1]?.getD ByteArray.empty) else A)
     else (if j + 1 < n then (A.set j (A[j + 1]?.getD ByteArray.empty)).set (j + 1) (A[j]?.getD ByteArray.empty) else A)) := by
  unfold harm1
  rw [if_pos (by omega), hj, hl]
  rfl
theorem harm1_1 (hj : x.s = j) (hl : A.length = n) (hjn : j < n) (hd : x.d = 1) : harm1 A x = A.set j ByteArray.empty := by
  rw [harm1_in hj hl hjn, if_pos hd]
theorem harm1_2 (hj : x.s = j) (hl : A.length = n) (hjn : j < n) (hd : x.d = 2) : harm1 A x = if 0 ≤ x.a ∧ x.a < (A[j]?.getD ByteArray.empty).size then A.set j (turnB (A[j]?.getD ByteArray.empty) x.a.toNat x.b) else A := by
  rw [harm1_in hj hl hjn, if_neg (by omega), if_pos hd]
theorem harm1_3 (hj : x.s = j) (hl : A.length = n) (hjn : j < n) (hd : x.d = 3) : harm1 A x = if 0 < j then A.set j (A[j - 1]?.getD ByteArray.empty) else A := by
  rw [harm1_in hj hl hjn, if_neg (by omega), if_neg (by omega), if_pos hd]
theorem harm1_4 (hj : x.s = j) (hl : A.length = n) (hjn : j < n) (hd : x.d = 4) : harm1 A x = if j + 1 < n then (A.set j (A[j + 1]?.getD ByteArray.empty)).set (j + 1) (A[j]?.getD ByteArray.empty) else A := by
  rw [harm1_in hj hl hjn, if_neg (by omega), if_neg (by omega), if_neg (by omega)]
end

abbrev tbl : Value := .agg #[.nilFunc, .func (.func 189) #[] #[], .func (.func 190) #[] #[], .func (.func 191) #[] #[], .func (.func 192) #[] #[]]
theorem harms_any (w : World) : Calls Tryz.prog 136 #[] w fun e w' => e = .returned tbl ∧ Below w.heap.size w w' := by
  go_enter Tryz.func136, Tryz.ntmps136
  go_wp2
  exact bodyPost_ret (v := tbl) (by simp [results, Tryz.results136, go_sem]) rfl ⟨rfl, (Below.refl _ _).alloc (Nat.le_refl _) _⟩

/-- the packets of bytes -/
def cutP (s : ByteArray) : List ByteArray := pks s (s.size / 188)

/-- how Pass ends -/
structure Passed (w w' : World) (e : Ending) (A : List ByteArray) : Prop where
  ret : ∃ a c, e = .returned (.tuple #[.slice a A.length c, .int .i64 0]) ∧ w'.ownsRow w.heap.size 9 1 (.slice a A.length c) A.length (A.map .string)
  be : Below w.heap.size w w'
structure Refused (w w' : World) (e : Ending) (c : Int) : Prop where
  ret : e = .returned (.tuple #[.slice none 0 0, .int .i64 c])
  be : Below w.heap.size w w'

theorem rest_ne {s : ByteArray} (h : s.size % 188 ≠ 0) : (!(s.extract (s.size / 188 * 188) s.size).toList.isEmpty) = true := by
  have := By.ext_size s (a := s.size / 188 * 188) (b := s.size) (Nat.le_refl _)
  rw [ByteArray.toList_eq]
  have e : (s.extract (s.size / 188 * 188) s.size).data.toList.length = s.size - s.size / 188 * 188 := by rw [Array.length_toList]; exact this
  cases h' : (s.extract (s.size / 188 * 188) s.size).data.toList with
  | nil => rw [h'] at e; simp at e; omega
  | cons => rfl
theorem rest_no {s : ByteArray} (h : s.size % 188 = 0) : (!(s.extract (s.size / 188 * 188) s.size).toList.isEmpty) = false := by
  have := By.ext_size s (a := s.size / 188 * 188) (b := s.size) (Nat.le_refl _)
  rw [ByteArray.toList_eq]
  have e : (s.extract (s.size / 188 * 188) s.size).data.toList.length = s.size - s.size / 188 * 188 := by rw [Array.length_toList]; exact this
  cases h' : (s.extract (s.size / 188 * 188) s.size).data.toList with
  | nil => rfl
  | cons => rw [h'] at e; simp at e; omega

theorem pass_form (s : ByteArray) (la : Option Addr) (ln lc : Nat) (w : World) (hs : s.size ≤ 1099511627776) (h : s.size % 188 ≠ 0) :
    Calls Tryz.prog 79 #[.string s, .slice la ln lc] w fun e w' => Refused w w' e 12 := by
  have kc := fun w => cut_any s w hs
  have hne := rest_ne h
  obtain ⟨r, hr⟩ : ∃ r, s.extract (s.size / 188 * 188) s.size = r := ⟨_, rfl⟩
  rw [hr] at kc hne
  clear hr h
  go_enter Tryz.func79, Tryz.ntmps79
  go_wp2_with fail
  (with_reducible refine (kc _).mono ?_); rintro e w1 ⟨v, rfl, hown, hb⟩
  clear hown
  go_wp2_with fail
  go_ret2
  exact ⟨rfl, hb⟩

theorem own_form {W : World} {B n : Nat} {v : Value} {A : List ByteArray} (h : W.ownsRow B 9 1 v n (A.map .string)) : A.length = n ∧ ∃ a c, v = .slice a n c ∧ (0 < n → ∃ g, a = some ⟨g, 0, none⟩) := by
  refine ⟨by have := h.1; simpa using this, ?_⟩
  rcases h.2 with ⟨e, e0⟩ | ⟨g, cap, cur, e, _⟩
  · exact ⟨none, 0, by rw [e, e0], fun h0 => by omega⟩
  · exact ⟨_, cap, e, fun _ => ⟨g, rfl⟩⟩

theorem idx1 (w : World) : (Instr.index 267 tbl (.int .i64 1)).run Tryz.prog w = .ok (.func (.func 189) #[] #[]) w := by kernel_rfl
theorem idx2 (w : World) : (Instr.index 267 tbl (.int .i64 2)).run Tryz.prog w = .ok (.func (.func 190) #[] #[]) w := by kernel_rfl
theorem idx3 (w : World) : (Instr.index 267 tbl (.int .i64 3)).run Tryz.prog w = .ok (.func (.func 191) #[] #[]) w := by kernel_rfl
theorem idx4 (w : World) : (Instr.index 267 tbl (.int .i64 4)).run Tryz.prog w = .ok (.func (.func 192) #[] #[]) w := by kernel_rfl


set_option maxRecDepth 100000 in
set_option maxHeartbeats 2000000 in
theorem pass_any (s : ByteArray) (la : Option Addr) (lc : Nat) (L : List H) (w : World) (hs : s.size ≤ 1099511627776) (hL : L.length ≤ 1099511627776) (h : s.size % 188 = 0) (hH : Harms w la L) :
    Calls Tryz.prog 79 #[.string s, .slice la L.length lc] w fun e w' => match pass L (cutP s) with
      | none => Refused w w' e 14
      | some A => Passed w w' e A := by
  have kc := fun w => cut_any s w hs
  have hne := rest_no h
  obtain ⟨r, hr⟩ : ∃ r, s.extract (s.size / 188 * 188) s.size = r := ⟨_, rfl⟩
  rw [hr] at kc hne
  have HH := Lib.hid hH
  obtain ⟨R, hR⟩ : ∃ R : Ending → World → Prop, R = (fun e w' => match pass L (cutP s) with
      | none => Refused w w' e 14
      | some A => Passed w w' e A) := ⟨_, rfl⟩
  rw [← hR]
  have HR := Lib.hid hR
  clear hr h hH hR
  go_enter Tryz.func79, Tryz.ntmps79
  go_wp2_with fail
  (with_reducible refine (kc _).mono ?_); rintro e w1 ⟨v, rfl, hown, hb⟩
  obtain ⟨hcl, a, c, rfl, hg⟩ := own_form hown
  obtain ⟨n, hn⟩ : ∃ n, s.size / 188 = n := ⟨_, rfl⟩
  have HC := Lib.hid (show (cutP s).length = n by unfold cutP; rw [hcl, hn])
  have hown : w1.ownsRow w.heap.size 9 1 (.slice a n c) n ((cutP s).map .string) := by unfold cutP; rw [hn] at hown ⊢; exact hown
  rw [hn] at hg ⊢
  have hnb : n ≤ 1099511627776 := by omega
  clear hcl kc hn
  go_wp2_with fail
  go_loopw [19] (fun i wr => ∃ (k : Nat) (A : List ByteArray), k ≤ L.length ∧ i = .int .i64 k ∧ Hid (pass (L.take k) (cutP s) = some A) ∧ wr.ownsRow w.heap.size 9 1 (.slice a n c) n (A.map .string) ∧ Below w.heap.size w wr) (fun i _ => L.length - (intOf i).toNat)
  case atStart => exact ⟨0, cutP s, by omega, rfl, Lib.hid rfl, hown, hb⟩
  case round =>
    clear hown hb
    obtain ⟨k, A, hk, rfl, hp, hown, hb⟩ := hrel
    by_cases hkl : k < L.length
    · have t0 : decide (k < L.length) = true := by simpa using hkl
      obtain ⟨x, hx⟩ : ∃ x, L[k]? = some x := ⟨L[k], List.getElem?_eq_getElem hkl⟩
      obtain ⟨b, o, e, hlt, c0, c1, c2, c3, r0, r1, r2, r3⟩ := HH.out.below (Nat.le_refl _) hb k x hx
      have HX := Lib.hid hx
      clear hx
      subst e
      by_cases hm1 : x.d < 1
      · have t1 : decide (x.d < 1) = true := by simpa using hm1
        go_wp2_with fail
        rw [HR.out]
        rw [pass_bad HX.out hp.out (fun hm => by unfold may at hm; omega)]
        exact ⟨rfl, hb.alloc hb.size _⟩
      · have t1 : decide (x.d < 1) = false := by simpa using hm1
        by_cases hm2 : 4 < x.d
        · have t2 : decide (4 < x.d) = true := by simpa using hm2
          go_wp2_with fail
          rw [HR.out]
          rw [pass_bad HX.out hp.out (fun hm => by unfold may at hm; omega)]
          exact ⟨rfl, hb.alloc hb.size _⟩
        · have t2 : decide (4 < x.d) = false := by simpa using hm2
          have HS := Lib.hid (pass_step HX.out hp.out ⟨by omega, by omega⟩)
          by_cases hin : 0 ≤ x.s ∧ x.s < n
          · obtain ⟨g, rfl⟩ := hg (by omega)
            obtain ⟨j, hj⟩ : ∃ j : Nat, x.s = j := ⟨x.s.toNat, by omega⟩
            have hjn : j < n := by omega
            have t3 : decide (j < n) = true := by simpa using hjn
            have HJ := Lib.hid hj
            rw [hj] at c1 r1
            have hAl : A.length = n := by have := hown.1; simpa using this
            have HAL := Lib.hid hAl
            clear hj hin hm1 hm2 hAl
            go_wp2_with fail
            have hd : x.d = 1 ∨ x.d = 2 ∨ x.d = 3 ∨ x.d = 4 := by
              have h1 := t1; have h2 := t2; simp at h1 h2; omega
            refine wp_gen (fun W => W.ownsRow w.heap.size 9 1 (.slice (some ⟨g, 0, none⟩) n c) n (A.map .string) ∧ Below w.heap.size w W ∧ Blk W wr.heap.size 175 #[.int .i64 x.d, .int .i64 j, .int .i64 x.a, .int .u8 x.b]) ⟨hown.alloc _, hb.alloc hb.size _, Blk.new _ _ _⟩ ?_
            intro W ⟨hown1, hb1, hbox⟩
            clear hown hb c0 c1 c2 c3 t1 t2 t3
            have y0 := fun p => Blk.cell (blk_ext hbox p) 0 (v := .int .i64 x.d) rfl
            have y1 := fun p => Blk.cell (blk_ext hbox p) 1 (v := .int .i64 j) rfl
            have y2 := fun p => Blk.cell (blk_ext hbox p) 2 (v := .int .i64 x.a) rfl
            have y3 := fun p => Blk.cell (blk_ext hbox p) 3 (v := .int .u8 x.b) rfl
            rcases hd with hd | hd | hd | hd
            · have HD := Lib.hid hd
              rw [hd] at y0
              clear hd
              have kx := idx1
              refine Go.Proofs.YtbiiehobfnbloaaGreatDoor.Q.region_ext_tail 6 (by kernel_rfl) (by kernel_rfl) ?_
              simp only [List.take_succ_cons, List.take_zero, List.drop_succ_cons, List.drop_zero]
              repeat (go_big_quiet_step ((go_at_call 136; refine ext_call (harms_any _))))
              refine wpQuiet_nil ?_
              rintro w9 ⟨pq, rfl⟩
              have hown2 := hown1.kept (only_of_below (below_ext W pq) none) (Or.inr (by simp [Value.ownBlock]))
              have hb2 := hb1.trans ((below_ext W pq).mono hb1.size)
              have z0 := y0 pq
              have z1 := y1 pq
              have z2 := y2 pq
              have z3 := y3 pq
              clear y0 y1 y2 y3 hown1 hb1 hbox kx
              go_wp2_with fail
              (with_reducible refine (lose_any w.heap.size g n c j A 1 x.a x.b _ hjn hown2).mono ?_); rintro e w7 ⟨rfl, hrow⟩
              have hS2 : pass (L.take (k + 1)) (cutP s) = some _ := HS.out.trans (congrArg some (show harm1 A x = _ from harm1_1 HJ.out HAL.out hjn HD.out))
              have hb3 := hb2.trans (below_of_only hrow.only hb2.size (fun r e => by cases e; exact (hown2.lt g rfl).1))
              have hown3 := hrow.own
              have HS2 := Lib.hid hS2
              clear hS2 hown2 hb2 hrow z0 z1 z2 z3
              go_wp2_with fail
              go_roundw
              case rel => exact ⟨k + 1, _, by omega, by go_num, HS2, hown3, hb3⟩
              case measure => simp [intOf]; omega
            · have HD := Lib.hid hd
              rw [hd] at y0
              clear hd
              have kh := fun V h => turn_any w.heap.size g n c j A 2 x.a x.b V hjn h _ rfl r3
              have kx := idx2
              refine Go.Proofs.YtbiiehobfnbloaaGreatDoor.Q.region_ext_tail 6 (by kernel_rfl) (by kernel_rfl) ?_
              simp only [List.take_succ_cons, List.take_zero, List.drop_succ_cons, List.drop_zero]
              repeat (go_big_quiet_step ((go_at_call 136; refine ext_call (harms_any _))))
              refine wpQuiet_nil ?_
              rintro w9 ⟨pq, rfl⟩
              have hown2 := hown1.kept (only_of_below (below_ext W pq) none) (Or.inr (by simp [Value.ownBlock]))
              have hb2 := hb1.trans ((below_ext W pq).mono hb1.size)
              have z0 := y0 pq
              have z1 := y1 pq
              have z2 := y2 pq
              have z3 := y3 pq
              clear y0 y1 y2 y3 hown1 hb1 hbox kx
              go_wp2_with fail
              (with_reducible refine (kh _ hown2).mono ?_); rintro e w7 ⟨rfl, hrow⟩
              have hS2 : pass (L.take (k + 1)) (cutP s) = some _ := HS.out.trans (congrArg some (show harm1 A x = _ from harm1_2 HJ.out HAL.out hjn HD.out))
              have hb3 := hb2.trans (below_of_only hrow.only hb2.size (fun r e => by cases e; exact (hown2.lt g rfl).1))
              have hown3 := hrow.own
              have HS2 := Lib.hid hS2
              clear hS2 hown2 hb2 hrow z0 z1 z2 z3
              go_wp2_with fail
              go_roundw
              case rel => exact ⟨k + 1, _, by omega, by go_num, HS2, hown3, hb3⟩
              case measure => simp [intOf]; omega
            · have HD := Lib.hid hd
              rw [hd] at y0
              clear hd
              have kx := idx3
              refine Go.Proofs.YtbiiehobfnbloaaGreatDoor.Q.region_ext_tail 6 (by kernel_rfl) (by kernel_rfl) ?_
              simp only [List.take_succ_cons, List.take_zero, List.drop_succ_cons, List.drop_zero]
              repeat (go_big_quiet_step ((go_at_call 136; refine ext_call (harms_any _))))
              refine wpQuiet_nil ?_
              rintro w9 ⟨pq, rfl⟩
              have hown2 := hown1.kept (only_of_below (below_ext W pq) none) (Or.inr (by simp [Value.ownBlock]))
              have hb2 := hb1.trans ((below_ext W pq).mono hb1.size)
              have z0 := y0 pq
              have z1 := y1 pq
              have z2 := y2 pq
              have z3 := y3 pq
              clear y0 y1 y2 y3 hown1 hb1 hbox kx
              go_wp2_with fail
              (with_reducible refine (again_any w.heap.size g n c j A 3 x.a x.b _ hjn (by omega) hown2).mono ?_); rintro e w7 ⟨rfl, hrow⟩
              have hS2 : pass (L.take (k + 1)) (cutP s) = some _ := HS.out.trans (congrArg some (show harm1 A x = _ from harm1_3 HJ.out HAL.out hjn HD.out))
              have hb3 := hb2.trans (below_of_only hrow.only hb2.size (fun r e => by cases e; exact (hown2.lt g rfl).1))
              have hown3 := hrow.own
              have HS2 := Lib.hid hS2
              clear hS2 hown2 hb2 hrow z0 z1 z2 z3
              go_wp2_with fail
              go_roundw
              case rel => exact ⟨k + 1, _, by omega, by go_num, HS2, hown3, hb3⟩
              case measure => simp [intOf]; omega
            · have HD := Lib.hid hd
              rw [hd] at y0
              clear hd
              have kx := idx4
              refine Go.Proofs.YtbiiehobfnbloaaGreatDoor.Q.region_ext_tail 6 (by kernel_rfl) (by kernel_rfl) ?_
              simp only [List.take_succ_cons, List.take_zero, List.drop_succ_cons, List.drop_zero]
              repeat (go_big_quiet_step ((go_at_call 136; refine ext_call (harms_any _))))
              refine wpQuiet_nil ?_
              rintro w9 ⟨pq, rfl⟩
              have hown2 := hown1.kept (only_of_below (below_ext W pq) none) (Or.inr (by simp [Value.ownBlock]))
              have hb2 := hb1.trans ((below_ext W pq).mono hb1.size)
              have z0 := y0 pq
              have z1 := y1 pq
              have z2 := y2 pq
              have z3 := y3 pq
              clear y0 y1 y2 y3 hown1 hb1 hbox kx
              go_wp2_with fail
              (with_reducible refine (swap_any w.heap.size g n c j A 4 x.a x.b _ hjn (by omega) hown2).mono ?_); rintro e w7 ⟨rfl, hrow⟩
              have hS2 : pass (L.take (k + 1)) (cutP s) = some _ := HS.out.trans (congrArg some (show harm1 A x = _ from harm1_4 HJ.out HAL.out hjn HD.out))
              have hb3 := hb2.trans (below_of_only hrow.only hb2.size (fun r e => by cases e; exact (hown2.lt g rfl).1))
              have hown3 := hrow.own
              have HS2 := Lib.hid hS2
              clear hS2 hown2 hb2 hrow z0 z1 z2 z3
              go_wp2_with fail
              go_roundw
              case rel => exact ⟨k + 1, _, by omega, by go_num, HS2, hown3, hb3⟩
              case measure => simp [intOf]; omega
          · have hS2 := HS.out
            have hAl : A.length = n := by have := hown.1; simpa using this
            have hsame : harm1 A x = A := by unfold harm1; rw [if_neg (by rw [hAl]; exact hin)]
            rw [hsame] at hS2
            have HS2 := Lib.hid hS2
            clear hS2 HS hsame hAl
            by_cases h0 : 0 ≤ x.s
            · have t3 : decide (0 ≤ x.s) = true := by simpa using h0
              have t4 : decide (x.s < (n : Int)) = false := by simp; omega
              clear hin
              go_wp2_with fail
              go_roundw
              case rel => exact ⟨k + 1, A, by omega, by go_num, HS2, hown.alloc _, hb.alloc hb.size _⟩
              case measure => simp [intOf]; omega
            · have t3 : decide (0 ≤ x.s) = false := by simpa using h0
              clear hin
              go_wp2_with fail
              go_roundw
              case rel => exact ⟨k + 1, A, by omega, by go_num, HS2, hown.alloc _, hb.alloc hb.size _⟩
              case measure => simp [intOf]; omega
    · obtain rfl : k = L.length := by omega
      have t0 : decide (L.length < L.length) = false := by simp
      go_wp2_with fail
      rw [HR.out]
      have hp' := hp.out
      rw [List.take_length] at hp'
      rw [hp']
      have hl := (pass_length hp').trans HC.out
      exact ⟨⟨a, c, by rw [hl]; rfl, by rw [hl]; exact hown⟩, hb⟩
end Go.Proofs.YtbiiehobfnbloaaGreatDoor.LkPass
