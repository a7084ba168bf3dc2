/- link: harms as the document's answer has them; its Pass. -/
import Derived.Test.YtnoioklkpeoopaaLkRef2
import Derived.Deep.RegionHeld3
import Derived.Deep.AppendLies
namespace Go.Proofs.Ytnoioklkpeoopaa.LkRef3
open Go.RowKit Go.Proofs.Ytnoioklkpeoopaa.Q Go.Proofs.Ytnoioklkpeoopaa.Mem Go.Proofs.Ytnoioklkpeoopaa.PkCut Go.Proofs.Ytnoioklkpeoopaa.LkHarm Go.Proofs.Ytnoioklkpeoopaa.LkPass Go.Proofs.Ytnoioklkpeoopaa.LkRef Go.Proofs.Ytnoioklkpeoopaa.LkRef2

def flat (L : List H) : List Value := L.flatMap fun h => [.int .i64 h.d, .int .i64 h.s, .int .i64 h.a, .int .u8 h.b]
theorem flat_length (L : List H) : (flat L).length = L.length * 4 := by
  induction L with
  | nil => rfl
  | cons h t ih => simp only [flat, List.flatMap_cons, List.length_append, List.length_cons] at ih ⊢; rw [ih]; simp; omega
theorem flat_get {L : List H} {i : Nat} {h : H} (hi : L[i]? = some h) (c : Nat) (hc : c < 4) : (flat L)[i * 4 + c]? = [Value.int .i64 h.d, .int .i64 h.s, .int .i64 h.a, .int .u8 h.b][c]? := by
  induction L generalizing i with
  | nil => simp at hi
  | cons x t ih =>
    cases i with
    | zero =>
      simp at hi
      subst hi
      simp only [flat, List.flatMap_cons, Nat.zero_mul, Nat.zero_add]
      rw [List.getElem?_append_left (by simp; omega)]
    | succ i =>
      simp at hi
      have := ih hi
      simp only [flat, List.flatMap_cons] at this ⊢
      rw [List.getElem?_append_right (by simp; omega), show (i + 1) * 4 + c - [Value.int .i64 x.d, .int .i64 x.s, .int .i64 x.a, .int .u8 x.b].length = i * 4 + c by simp; omega]
      exact this
theorem harms_own {w : World} {B : Nat} {a : Option Addr} {c : Nat} {L : List H} (h : w.ownsRow B 44 4 (.slice a L.length c) L.length (flat L))
    (hb : ∀ x ∈ L, (-9223372036854775808 ≤ x.d ∧ x.d ≤ 9223372036854775807) ∧ (-9223372036854775808 ≤ x.s ∧ x.s ≤ 9223372036854775807) ∧ (-9223372036854775808 ≤ x.a ∧ x.a ≤ 9223372036854775807) ∧ (0 ≤ x.b ∧ x.b < 256)) : Harms w a L := fun i x hi => by
  have hil : i < L.length := (List.getElem?_eq_some_iff.1 hi).1
  have hm := hb x (List.mem_of_getElem? hi)
  rcases h.2 with ⟨_, e⟩ | ⟨g, cap, cur, e, _⟩
  · omega
  · simp only [Value.slice.injEq, true_and] at e
    obtain ⟨rfl, rfl⟩ := e
    refine ⟨g, 0, rfl, (h.lt g rfl).2, ?_, ?_, ?_, ?_, hm⟩
    · have := h.cellAt (i * 4 + 0) (by omega)
      rw [flat_get hi 0 (by omega)] at this
      simpa using this
    · rw [Nat.zero_add, h.cellAt (i * 4 + 1) (by omega), flat_get hi 1 (by omega)]; rfl
    · rw [Nat.zero_add, h.cellAt (i * 4 + 2) (by omega), flat_get hi 2 (by omega)]; rfl
    · rw [Nat.zero_add, h.cellAt (i * 4 + 3) (by omega), flat_get hi 3 (by omega)]; rfl
theorem harms_bd {w : World} {a : Option Addr} {L : List H} (h : Harms w a L) : ∀ x ∈ L, (-9223372036854775808 ≤ x.d ∧ x.d ≤ 9223372036854775807) ∧ (-9223372036854775808 ≤ x.s ∧ x.s ≤ 9223372036854775807) ∧ (-9223372036854775808 ≤ x.a ∧ x.a ≤ 9223372036854775807) ∧ (0 ≤ x.b ∧ x.b < 256) := fun x hx => by
  obtain ⟨i, hi⟩ := List.getElem?_of_mem hx
  obtain ⟨_, _, _, _, _, _, _, _, r⟩ := h i x hi
  exact r
theorem cells_new (w : World) (xs : List Value) (t : TypeId) : ∀ j u, xs[j]? = some u → (w.alloc (.cells xs.toArray t)).cell? ((⟨w.heap.size, 0, none⟩ : Addr).add j) = some u := by
  intro j u hj
  have hp : (⟨w.heap.size, 0, none⟩ : Addr).add j = ⟨w.heap.size, j, none⟩ := by unfold Addr.add; split <;> simp_all
  rw [hp]
  exact Blk.cell (Blk.new w t xs.toArray) j (by simpa using hj)

theorem infoH : (Try.prog.info? 44).map (fun i => (i.zero, i.size, i.bytes)) = some (some (.agg #[.int .i64 0, .int .i64 0, .int .i64 0, .int .u8 0]), 4, 32) := by kernel_rfl

set_option maxRecDepth 100000 in
set_option maxHeartbeats 1000000 in
theorem lharms_any (a : Option Addr) (c : Nat) (L : List H) (w : World) (hl : L.length ≤ 1000) (hH : Harms w a L) :
    Calls Try.prog 8 #[.slice a L.length c] w fun e w' => ∃ a' c', e = .returned (.slice a' L.length c') ∧ Harms w' a' L ∧ Below w.heap.size w w' := by
  obtain ⟨i0, hi, hz0, hz1, hz2⟩ := info_parts infoH
  have HH := Lib.hid hH
  clear hH
  go_enter Try.func8, Try.ntmps8
  go_wp2_with fail
  go_loopw [3, 4] (fun o i wr => ∃ k : Nat, k ≤ L.length ∧ i = .int .i64 k ∧ wr.ownsRow w.heap.size 44 4 o k (flat (L.take k)) ∧ Below w.heap.size w wr) (fun _ i _ => L.length - (intOf i).toNat)
  case atStart => exact ⟨0, by omega, rfl, World.ownsRow_nil _ _ _ _, Below.refl _ _⟩
  case round =>
    obtain ⟨k, hk, rfl, hown, hb⟩ := hrel
    by_cases hkl : k < L.length
    · have t0 : decide (k < L.length) = true := by simpa using hkl
      obtain ⟨x, hx⟩ : ∃ x, L[k]? = some x := ⟨L[k], List.getElem?_eq_getElem hkl⟩
      obtain ⟨b, o, rfl, hbw, _⟩ := HH.out k x hx
      obtain ⟨_, _, e2, hlt, c0, c1, c2, c3, _⟩ := HH.out.below (Nat.le_refl _) hb k x hx
      cases e2
      have HX := Lib.hid hx
      have ag : u3.ownBlock ≠ some b := fun e => by have := (hown.lt b e).1; omega
      have hsz := hb.size
      have hk0 : (0 : Int) ≤ (k : Int) := Int.natCast_nonneg _
      have hk1 : (k : Int) < (L.length : Int) := by omega
      clear hx
      go_wp2_with fail
      go_region_held3 (fun w' => w'.cell? ⟨b, o + k * 4, none⟩ = some (.int .i64 x.d) ∧ w'.cell? ⟨b, o + k * 4 + 1, none⟩ = some (.int .i64 x.s) ∧ w'.cell? ⟨b, o + k * 4 + 2, none⟩ = some (.int .i64 x.a) ∧ w'.cell? ⟨b, o + k * 4 + 3, none⟩ = some (.int .u8 x.b))
        (first
          | go_keep
          | (go_split_ands
             refine ⟨?_, ?_, ?_, ?_⟩
             · (rw [hgrow.cell_far _ (by simp; omega) (Ne.symm ag)]; assumption)
             · (rw [hgrow.cell_far _ (by simp; omega) (Ne.symm ag)]; assumption)
             · (rw [hgrow.cell_far _ (by simp; omega) (Ne.symm ag)]; assumption)
             · (rw [hgrow.cell_far _ (by simp; omega) (Ne.symm ag)]; assumption)))
        ((refine step_append_lies _ (by rfl) _ _ _ (by rfl) w.heap.size 44 i0 _ 4 32 Try.underlying30 hi hz0 hz1 hz2 rfl (by omega) u3 k (flat (L.take k)) (by rfl) ((hown.alloc _).drew) ⟨wr.heap.size, 0, none⟩ 1 1 [.int .i64 x.d, .int .i64 x.s, .int .i64 x.a, .int .u8 x.b] (by rfl) (by rfl) (World.news_of_block (cs := #[.int .i64 x.d, .int .i64 x.s, .int .i64 x.a, .int .u8 x.b]) (t := 44) (fr := (0, 0)) (heap_alloc_new wr _)) (by simp [Value.oneCell']) (by omega) (by unfold maxLen; omega) (by omega) (by simp; omega) (wr.heap.size + 1) (by simp) ?_; intro gg cap w1 hown1 hgrow hat hlt2))
      have hown3 : w1.ownsRow w.heap.size 44 4 (.slice (some ⟨gg, 0, none⟩) (k + 1) cap) (k + 1) (flat (L.take (k + 1))) := by
        have e : flat (L.take (k + 1)) = flat (L.take k) ++ [.int .i64 x.d, .int .i64 x.s, .int .i64 x.a, .int .u8 x.b] := by
          rw [List.take_add_one, HX.out]; simp [flat]
        rw [e]
        exact hown1
      have hgr := hown.lt
      have hb3 := (below_drewN (hb.alloc hb.size _) 1).grown hgrow (by simp; omega) (fun r e => (hgr r e).1)
      clear hown hown1 hgrow hb hgr c0 c1 c2 c3 ag hat
      go_wp2_with fail
      go_roundw
      case rel => exact ⟨k + 1, by omega, by go_num, hown3, hb3⟩
      case measure => simp [intOf]; omega
    · obtain rfl : k = L.length := by omega
      have t0 : decide (L.length < L.length) = false := by simp
      rw [List.take_length] at hown
      have hf : ∃ a' c', u3 = Value.slice a' L.length c' := by
        rcases hown.2 with ⟨e, e0⟩ | ⟨g, cap, cur, e, _⟩
        · exact ⟨none, 0, by rw [e, e0]⟩
        · exact ⟨_, _, e⟩
      obtain ⟨a', c', rfl⟩ := hf
      have HO := Lib.hid (harms_own hown (harms_bd HH.out))
      go_wp2_with fail
      go_ret
      exact ⟨a', c', rfl, HO.out, hb⟩

def Small (A : List ByteArray) : Prop := ∀ x ∈ A, x.size ≤ 1099511627776
theorem small_get {A : List ByteArray} (h : Small A) (k : Nat) : (A[k]?.getD ByteArray.empty).size ≤ 1099511627776 := by
  cases hk : A[k]? with
  | none => exact Nat.zero_le _
  | some x => exact h x (List.mem_of_getElem? hk)
theorem small_set {A : List ByteArray} (h : Small A) (k : Nat) {x : ByteArray} (hx : x.size ≤ 1099511627776) : Small (A.set k x) := fun y hy => by
  rcases List.mem_or_eq_of_mem_set hy with h1 | h1
  · exact h y h1
  · rw [h1]; exact hx
theorem harm1_small {A : List ByteArray} (h : Small A) (x : H) : Small (harm1 A x) := by
  unfold harm1
  repeat' split
  all_goals first
    | exact h
    | exact small_set h _ (Nat.zero_le _)
    | exact small_set h _ (by rw [turnB_size]; exact small_get h _)
    | exact small_set h _ (small_get h _)
    | exact small_set (small_set h _ (small_get h _)) _ (small_get h _)
theorem cut_small (s : ByteArray) : Small (cutP s) := fun x hx => by
  simp only [cutP, pks, List.mem_map, List.mem_range] at hx
  obtain ⟨i, _, rfl⟩ := hx
  have := ByteArray.size_extract (a := s) (b := 188 * i) (e := 188 * i + 188)
  unfold pk
  omega

theorem one_any (a : Option Addr) (c : Nat) (A : List ByteArray) (h : H) (w : World) (hl : A.length ≤ 1099511627776) (hA : Strs w a A) (hm : may h) (hb0 : 0 ≤ h.b ∧ h.b < 256) (hsz : Small A) :
    Calls Try.prog 12 #[.slice a A.length c, .agg #[.int .i64 h.d, .int .i64 h.s, .int .i64 h.a, .int .u8 h.b]] w fun e w' => ∃ a' c', e = .returned (.slice a' A.length c') ∧ Strs w' a' (harm1 A h) ∧ Below w.heap.size w w' := by
  have hd : h.d = 1 ∨ h.d = 2 ∨ h.d = 3 ∨ h.d = 4 := by unfold may at hm; omega
  rcases hd with hd | hd | hd | hd
  · have := one_1 a c A h w hl hA hd; rw [← hd] at this; exact this.mono fun e w' ⟨a', c', h1, h2, h3⟩ => ⟨a', c', h1, strs_own h2, h3⟩
  · have := one_2 a c A h w hl hA hd hb0 hsz; rw [← hd] at this; exact this.mono fun e w' ⟨a', c', h1, h2, h3⟩ => ⟨a', c', h1, strs_own h2, h3⟩
  · have := one_3 a c A h w hl hA hd; rw [← hd] at this; exact this.mono fun e w' ⟨a', c', h1, h2, h3⟩ => ⟨a', c', h1, strs_own h2, h3⟩
  · have := one_4 a c A h w hl hA hd; rw [← hd] at this; exact this.mono fun e w' ⟨a', c', h1, h2, h3⟩ => ⟨a', c', h1, strs_own h2, h3⟩

theorem rpass_form (s : ByteArray) (la : Option Addr) (ln lc : Nat) (w : World) (hs : s.size ≤ 1099511627776) (h : s.size % 188 ≠ 0) :
    Calls Try.prog 7 #[.string s, .slice la ln lc] w fun e w' => e = .returned (.tuple #[.slice none 0 0, .int .i64 0]) ∧ w = w' := by
  have t0 : ((s.size : Int) % 188 != 0) = true := by simp; omega
  clear h
  go_enter Try.func7, Try.ntmps7
  go_wp2_with fail
  go_ret2
  exact ⟨rfl, rfl⟩

/-- how the document's Pass ends -/
structure RPassed (w w' : World) (e : Ending) (A : List ByteArray) : Prop where
  ret : ∃ a c, e = .returned (.tuple #[.slice a A.length c, .int .i64 2]) ∧ Strs w' a A
  be : Below w.heap.size w w'
structure RRefused (w w' : World) (e : Ending) : Prop where
  ret : e = .returned (.tuple #[.slice none 0 0, .int .i64 1])
  be : Below w.heap.size w w'

set_option maxRecDepth 100000 in
set_option maxHeartbeats 2000000 in
theorem rpass_any (s : ByteArray) (la : Option Addr) (lc : Nat) (L : List H) (w : World) (hs : s.size ≤ 1099511627776) (hL : L.length ≤ 1099511627776) (h : s.size % 188 = 0) (hH : Harms w la L) :
    Calls Try.prog 7 #[.string s, .slice la L.length lc] w fun e w' => match pass L (cutP s) with
      | none => RRefused w w' e
      | some A => RPassed w w' e A := by
  obtain ⟨i0, hi, hz0, hz1, hz2⟩ := info_parts infoS
  have HH := Lib.hid hH
  obtain ⟨R, hR⟩ : ∃ R : Ending → World → Prop, R = (fun e w' => match pass L (cutP s) with
      | none => RRefused w w' e
      | some A => RPassed w w' e A) := ⟨_, rfl⟩
  rw [← hR]
  have HR := Lib.hid hR
  have t0 : ((s.size : Int) % 188 != 0) = false := by simp; omega
  have HM := Lib.hid h
  clear h hH hR
  go_enter Try.func7, Try.ntmps7
  go_wp2_with fail
  go_loopw [6, 7] (fun o i wr => ∃ k p : Nat, Hid (p = 188 * k) ∧ k ≤ s.size / 188 ∧ i = .int .i64 p ∧ wr.ownsRow w.heap.size 9 1 o k ((pks s k).map .string) ∧ Below w.heap.size w wr) (fun _ i _ => s.size - (intOf i).toNat)
  case atStart => exact ⟨0, 0, Lib.hid (show 0 = 188 * 0 from rfl), by omega, rfl, World.ownsRow_nil _ _ _ _, Below.refl _ _⟩
  case round =>
    obtain ⟨k, p, hp, hk, rfl, hown, hb⟩ := hrel
    by_cases hkl : p < s.size
    · have t1 : decide (p < s.size) = true := by simpa using hkl
      have hps : p + 188 ≤ s.size := by have := hp.out; have := HM.out; omega
      have HE := Lib.hid (show s.extract p (p + 188) = pk s k by rw [hp.out]; rfl)
      have hsl : ∀ V : World, (Instr.slice 9 (.string s) (some (.int .i64 (p : Int))) (some (.int .i64 ((p : Int) + 188))) none).run Try.prog V = .ok (.string (s.extract p (p + 188))) V := fun V =>
        run_slice_string V 9 s .i64 .i64 (p : Int) ((p : Int) + 188) Try.underlying9 (by omega) (by omega) (by omega)
      go_wp2_with (first | (at_builtin; refine wpList_append_own _ rfl _ _ 24 rfl w.heap.size 9 i0 (.string ByteArray.empty) 1 16 Try.underlying24 hi hz0 hz1 hz2 rfl (by decide) _ _ _ rfl (hown.alloc _) ⟨wr.heap.size, 0, none⟩ 1 1 [.string (s.extract p (p + 188))] rfl rfl (cell_one_new _ _ _) ?c1 ?c2 ?c3 ?c4 ?_) | fail)
      case c1 => simp [Value.oneCell']
      case c2 => unfold maxLen; omega
      case c3 => omega
      case c4 => have := hb.size; simp; omega
      intro v' w1 hown' hgrow _
      have hown2 : w1.ownsRow w.heap.size 9 1 v' (k + 1) ((pks s (k + 1)).map .string) := by
        rw [pks_succ, List.map_append, ← HE.out]
        exact hown'
      have hgr := hown.lt
      have hb2 := (hb.alloc hb.size _).grown hgrow (by have := hb.size; simp; omega) (fun r e => (hgr r e).1)
      clear hown hown' hgrow hb hgr
      go_wp2_with fail
      go_roundw
      case rel => exact ⟨k + 1, p + 188, Lib.hid (by have := hp.out; omega), by have := hp.out; omega, by go_num, hown2, hb2⟩
      case measure => simp [intOf]; omega
    · have t1 : decide (p < s.size) = false := by simpa using hkl
      have hkk : k = s.size / 188 := by have := hp.out; have := HM.out; omega
      obtain ⟨hcl, a, c, rfl, _⟩ := own_form hown
      have hS := strs_own hown
      rw [hkk] at hS hcl
      rw [hkk]
      obtain ⟨n, hn⟩ : ∃ n, s.size / 188 = n := ⟨_, rfl⟩
      have HC := Lib.hid (show (cutP s).length = n by unfold cutP; rw [hcl, hn])
      have hS0 : Strs wr a (cutP s) := hS
      have hnb : n ≤ 1099511627776 := by omega
      have HS0 := Lib.hid hS0
      rw [hn]
      clear hown hkk hcl hn hS hS0 hk hkl
      go_wp2_with fail
      clear t1
      obtain ⟨wo, hwo⟩ : ∃ wo : World, wo = wr := ⟨_, rfl⟩
      go_loopw [6, 8] (fun o i wi => ∃ (k : Nat) (A : List ByteArray) (a : Option Addr) (c : Nat), k ≤ L.length ∧ o = .slice a n c ∧ i = .int .i64 k ∧ Hid (pass (L.take k) (cutP s) = some A ∧ A.length = n ∧ Strs wi a A ∧ Small A) ∧ Below w.heap.size w wi) (fun _ i _ => L.length - (intOf i).toNat)
      case atStart => exact ⟨0, cutP s, a, c, by omega, rfl, rfl, Lib.hid ⟨rfl, HC.out, HS0.out, cut_small s⟩, hb⟩
      case round =>
        clear hb hwo HS0
        obtain ⟨k, A, a, c, hk, rfl, rfl, hI, hb⟩ := hrel
        by_cases hkl : k < L.length
        · have t1 : decide (k < L.length) = true := by simpa using hkl
          obtain ⟨x, hx⟩ : ∃ x, L[k]? = some x := ⟨L[k], List.getElem?_eq_getElem hkl⟩
          obtain ⟨b, o, e2, hlt, c0, c1, c2, c3, r0, r1, r2, r3⟩ := HH.out.below (Nat.le_refl _) hb k x hx
          have HX := Lib.hid hx
          clear hx
          subst e2
          by_cases hm1 : x.d < 1
          · have t2 : decide (x.d < 1) = true := by simpa using hm1
            go_wp2_with fail
            rw [HR.out]
            rw [pass_bad HX.out hI.out.1 (fun hm => by unfold may at hm; omega)]
            exact ⟨rfl, hb⟩
          · have t2 : decide (x.d < 1) = false := by simpa using hm1
            by_cases hm2 : 4 < x.d
            · have t3 : decide (4 < x.d) = true := by simpa using hm2
              go_wp2_with fail
              rw [HR.out]
              rw [pass_bad HX.out hI.out.1 (fun hm => by unfold may at hm; omega)]
              exact ⟨rfl, hb⟩
            · have t3 : decide (4 < x.d) = false := by simpa using hm2
              have hmay : may x := ⟨by omega, by omega⟩
              have ko := fun V h => one_any a c A x V (by rw [hI.out.2.1]; exact hnb) h hmay r3 hI.out.2.2.2
              rw [hI.out.2.1] at ko
              have HP := Lib.hid (pass_step HX.out hI.out.1 hmay)
              clear hmay
              go_wp2_with fail
              (with_reducible refine (ko _ hI.out.2.2.1).mono ?_); rintro e w7 ⟨a', c', rfl, hS7, hb7⟩
              have HI7 := Lib.hid (show pass (L.take (k + 1)) (cutP s) = some (harm1 A x) ∧ (harm1 A x).length = n ∧ Strs w7 a' (harm1 A x) ∧ Small (harm1 A x) from ⟨HP.out, (harm1_length _ _).trans hI.out.2.1, hS7, harm1_small hI.out.2.2.2 _⟩)
              have hb8 := hb.trans (hb7.mono hb.size)
              clear ko hS7 hb hb7 c0 c1 c2 c3 hI HP
              go_wp2_with fail
              go_roundw
              case rel => exact ⟨k + 1, _, a', c', by omega, rfl, by go_num, HI7, hb8⟩
              case measure => simp [intOf]; omega
        · obtain rfl : k = L.length := by omega
          have t1 : decide (L.length < L.length) = false := by simp
          go_wp2_with fail
          rw [HR.out]
          have hp' := hI.out.1
          rw [List.take_length] at hp'
          rw [hp']
          have hl := hI.out.2.1
          exact ⟨⟨a, c, by rw [hl]; rfl, hI.out.2.2.1⟩, hb⟩
end Go.Proofs.Ytnoioklkpeoopaa.LkRef3
