/- table: Out. -/
import Derived.Test.YtlocgilgdnhnlaaGreatDoorTbT
import Derived.Test.YtlocgilgdnhnlaaGreatDoorPkA
namespace Go.Proofs.YtlocgilgdnhnlaaGreatDoor.TbU
open Go Go.RowKit Go.Proofs.YtlocgilgdnhnlaaGreatDoor.Q Go.Proofs.YtlocgilgdnhnlaaGreatDoor.Mem Go.Proofs.YtlocgilgdnhnlaaGreatDoor.Rg Go.Proofs.YtlocgilgdnhnlaaGreatDoor.Ap Go.Proofs.YtlocgilgdnhnlaaGreatDoor.ApG Go.Proofs.YtlocgilgdnhnlaaGreatDoor.St Go.Proofs.YtlocgilgdnhnlaaGreatDoor.BiW Go.Proofs.YtlocgilgdnhnlaaGreatDoor.BiG Go.Proofs.YtlocgilgdnhnlaaGreatDoor.CrB Go.Proofs.YtlocgilgdnhnlaaGreatDoor.Scp Go.Proofs.YtlocgilgdnhnlaaGreatDoor.DgB Go.Proofs.YtlocgilgdnhnlaaGreatDoor.DgC Go.Proofs.YtlocgilgdnhnlaaGreatDoor.TlS Go.Proofs.YtlocgilgdnhnlaaGreatDoor.TbM Go.Proofs.YtlocgilgdnhnlaaGreatDoor.TbN Go.Proofs.YtlocgilgdnhnlaaGreatDoor.TbO Go.Proofs.YtlocgilgdnhnlaaGreatDoor.TbP Go.Proofs.YtlocgilgdnhnlaaGreatDoor.TbQ Go.Proofs.YtlocgilgdnhnlaaGreatDoor.TbT

set_option maxRecDepth 100000
/-- the next start -/
def nxt (S : Tb) (p : Nat) : Option Nat := (S.st.drop (below S.st (p + 1))).head?
/-- the datagram's length at a place, if there is one -/
def dN (S : Tb) (p : Nat) : Nat := fsN (knS S p)
def outF (S : Tb) : Nat → Nat → List (Nat × Nat)
  | 0, _ => []
  | f + 1, p => if 0 < dN S p then (p, dN S p) :: outF S f (p + dN S p) else match nxt S p with
    | some q => outF S f q
    | none => []
def outAt (S : Tb) (p : Nat) : List (Nat × Nat) := outF S (191 * S.R + 1 - p) p
theorem kn_size (S : Tb) (p : Nat) : (knS S p).size = kn S p 4080 := by unfold knS; rw [← bl_len, bl_str, bytesL_len]
theorem dN_in (S : Tb) (p : Nat) (hp : p ≤ 191 * S.R) : p + dN S p ≤ 191 * S.R := by
  have h1 := fsN_le (knS S p)
  rw [kn_size] at h1
  unfold dN
  rcases kn_in S 4080 p with h | h <;> omega
theorem below_le (L : List Nat) (p : Nat) : below L p ≤ L.length := List.countP_le_length
theorem nxt_mem {S : Tb} {p q : Nat} (h : nxt S p = some q) : q ∈ S.st := by
  unfold nxt at h
  exact List.mem_of_mem_drop (List.mem_of_mem_head? h)
/-- behind those that are below stands nothing that is -/
theorem drop_below {L : List Nat} (hs : L.Pairwise (· < ·)) (p : Nat) : ∀ z ∈ L.drop (below L p), p ≤ z := by
  induction L with
  | nil => intro z hz; simp at hz
  | cons x t ih =>
    intro z hz
    have ht := List.pairwise_cons.1 hs
    unfold below at hz
    rw [List.countP_cons] at hz
    by_cases hx : x < p
    · simp only [hx, decide_true, if_true, List.drop_succ_cons] at hz
      exact ih ht.2 z hz
    · simp only [hx, decide_false, Bool.false_eq_true, if_false, Nat.add_zero] at hz
      have h0 : t.countP (fun z => decide (z < p)) = 0 := by
        rw [List.countP_eq_zero]
        intro y hy
        have := ht.1 y hy
        simp; omega
      rw [h0, List.drop_zero] at hz
      rcases List.mem_cons.1 hz with rfl | hz
      · omega
      · have := ht.1 z hz; omega
theorem nxt_gt {S : Tb} {p q : Nat} (hs : S.st.Pairwise (· < ·)) (h : nxt S p = some q) : p < q := by
  unfold nxt at h
  have := drop_below hs (p + 1) q (List.mem_of_mem_head? h)
  omega
theorem outF_same (S : Tb) (hok : Ok S) : ∀ (f f' p : Nat), p ≤ 191 * S.R → 191 * S.R + 1 - p ≤ f → 191 * S.R + 1 - p ≤ f' → outF S f p = outF S f' p
  | 0, f', p, hp, h1, _ => by omega
  | f + 1, 0, p, hp, _, h2 => by omega
  | f + 1, f' + 1, p, hp, h1, h2 => by
    rw [outF, outF]
    by_cases hd : 0 < dN S p
    · rw [if_pos hd, if_pos hd]
      have := dN_in S p hp
      rw [outF_same S hok f f' (p + dN S p) this (by omega) (by omega)]
    · rw [if_neg hd, if_neg hd]
      cases hn : nxt S p with
      | none => rfl
      | some q =>
        have h3 := nxt_gt hok.up hn
        have h4 := hok.lt q (nxt_mem hn)
        exact outF_same S hok f f' q (by omega) (by omega) (by omega)
theorem outAt_yes {S : Tb} (hok : Ok S) {p : Nat} (hp : p ≤ 191 * S.R) (hd : 0 < dN S p) : outAt S p = (p, dN S p) :: outAt S (p + dN S p) := by
  unfold outAt
  rw [show 191 * S.R + 1 - p = (191 * S.R - p) + 1 by omega, outF, if_pos hd]
  congr 1
  have := dN_in S p hp
  exact outF_same S hok _ _ _ this (by omega) (by omega)
theorem outAt_next {S : Tb} (hok : Ok S) {p q : Nat} (hp : p ≤ 191 * S.R) (hd : ¬ 0 < dN S p) (hn : nxt S p = some q) : outAt S p = outAt S q := by
  unfold outAt
  rw [show 191 * S.R + 1 - p = (191 * S.R - p) + 1 by omega, outF, if_neg hd, hn]
  have h3 := nxt_gt hok.up hn
  have h4 := hok.lt q (nxt_mem hn)
  exact outF_same S hok _ _ _ (by omega) (by omega) (by omega)
theorem outAt_end {S : Tb} {p : Nat} (hp : p ≤ 191 * S.R) (hd : ¬ 0 < dN S p) (hn : nxt S p = none) : outAt S p = [] := by
  unfold outAt
  rw [show 191 * S.R + 1 - p = (191 * S.R - p) + 1 by omega, outF, if_neg hd, hn]
/-- what is told -/
def enPl (S : Tb) (x : Nat × Nat) : List Value := [.int .i64 (x.1 : Int), .string (str (bytesL S x.1 x.2))]
theorem text_is (S : Tb) (p : Nat) : (knS S p).extract 0 (dN S p) = str (bytesL S p (dN S p)) := by
  have h1 := fsN_le (knS S p)
  rw [kn_size] at h1
  have h2 : dN S p ≤ kn S p 4080 := h1
  refine bl_inj ?_
  rw [ext_bl, bl_str]
  unfold knS
  rw [bl_str]
  obtain ⟨d, hd⟩ : ∃ d, dN S p = d := ⟨_, rfl⟩
  rw [hd] at h2 ⊢
  obtain ⟨k, hk⟩ : ∃ k, kn S p 4080 = k := ⟨_, rfl⟩
  rw [hk] at h2 ⊢
  unfold bytesL
  rw [List.drop_zero, ← List.map_take, List.take_range, Nat.sub_zero, Nat.min_eq_left h2]
theorem elemPl : Elem Tryz.prog 40 44 2 24 := elem_of Tryz.underlying40 (z := .agg #[.int .i64 0, .string ByteArray.empty]) (by kernel_rfl) rfl (by decide)
def tm (a : Act) (k : Nat) : Value := a.tmps.getD k undef
def frO (gt : Nat) (out : Value) (at_ : Nat) (u : Nat → Value) : Act := { tmps := #[.pointer (some ⟨gt, 0, none⟩), u 1, .slice none 0 0, out, .int .i64 (at_ : Int), u 5, u 6, u 7, u 8, u 9, u 10, u 11, u 12, u 13, u 14, u 15, u 16, u 17, u 18, u 19, u 20, u 21, u 22, u 23, u 24, u 25, u 26, u 27, u 28, u 29, u 30, u 31, u 32, u 33, u 34, u 35, u 36, u 37, u 38, u 39, u 40, u 41, u 42, u 43, u 44, u 45, u 46, u 47, u 48, u 49, u 50, u 51, u 52, u 53], defers := [] }
def J0 (w : World) (S : Tb) (gt : Nat) (a : Act) (W : World) : Prop :=
  ∃ (u : Nat → Value) (out : Value) (p : Nat) (A : List (Nat × Nat)), a = frO gt out p u ∧ Below w.heap.size w W ∧ W.ownsRow w.heap.size 44 2 out A.length (flat (enPl S) A) ∧ A ++ outAt S p = outAt S 0 ∧ p ≤ 191 * S.R ∧ A.length ≤ p
theorem j0_intro {w W : World} {S : Tb} {gt p : Nat} {a : Act} {out : Value} {A : List (Nat × Nat)} (h : a = frO gt out p (tm a)) (hb : Below w.heap.size w W) (ho : W.ownsRow w.heap.size 44 2 out A.length (flat (enPl S) A)) (h1 : A ++ outAt S p = outAt S 0) (h2 : p ≤ 191 * S.R) (h3 : A.length ≤ p) : J0 w S gt a W := ⟨tm a, out, p, A, h, hb, ho, h1, h2, h3⟩
def num (v : Value) : Nat := match v with | .int _ i => i.toNat | _ => 0
set_option maxHeartbeats 3200000 in
theorem out_any (w : World) (B gt gr : Nat) (v : Value) (S : Tb) (h : TbIn w B gt gr v S) (hok : Ok S) :
    Calls Tryz.prog 11 #[.pointer (some ⟨gt, 0, none⟩)] w fun e w' => Below w.heap.size w w' ∧ ∃ out, e = .returned out ∧ w'.ownsRow w.heap.size 44 2 out (outAt S 0).length (flat (enPl S) (outAt S 0)) := by
  obtain ⟨R, hR⟩ : ∃ R : Ending → World → Prop, R = (fun e w' => Below w.heap.size w w' ∧ ∃ out, e = .returned out ∧ w'.ownsRow w.heap.size 44 2 out (outAt S 0).length (flat (enPl S) (outAt S 0))) := ⟨_, rfl⟩
  rw [← hR]
  have HR := Lib.hid hR
  have HH := Lib.hid h
  have HOK := Lib.hid hok
  clear hR h hok
  go_enter Tryz.func11, Tryz.ntmps11
  go_wp2_with fail
  refine wp_scope_one 0 (J0 w S gt) (fun a _ => 191 * S.R + 1 - num (a.tmps.getD 4 undef)) rfl ?_ ?_
  · rintro a1 W ⟨u, out, p, A, rfl, hb, hown, hA, hp, hAl⟩
    have HT := Lib.hid (HH.out.below hb)
    have kk := known_any W B gt gr p v S HT.out HOK.out.R (by have := HOK.out.R; omega)
    have HA := Lib.hid hA
    unfold frO
    clear hA
    have hks : (knS S p).size ≤ 1099511627776 := by have := kn_le S 4080 p; rw [kn_size]; omega
    go_wp2_with fail
    (with_reducible refine (kk).mono ?_); rintro e1 W1 ⟨rfl, hb1⟩
    have hb2 := hb.trans (hb1.mono hb.size)
    have hown1 := own_below hown hb1
    have kf := first_any (knS S p) W1 hks
    rw [show fsN (knS S p) = dN S p from rfl, text_is] at kf
    have hpd := dN_in S p hp
    have hn9 : (dN S p : Int) ≤ 300000 := by have := HOK.out.R; omega
    have hp9 : (p : Int) ≤ 300000 := by have := HOK.out.R; omega
    have hlen : (str (bytesL S p (dN S p))).size = dN S p := by rw [← bl_len, bl_str, bytesL_len]
    have q0 : (0 : Int) ≤ (p : Int) := Int.natCast_nonneg _
    clear kk hks hb hown hb1
    by_cases hd : 0 < dN S p
    · rw [decide_eq_true hd] at kf
      have HN := Lib.hid (outAt_yes HOK.out hp hd)
      have hfl : flat (enPl S) (A ++ [(p, dN S p)]) = flat (enPl S) A ++ [.int .i64 (p : Int), .string (str (bytesL S p (dN S p)))] := by rw [flat_app]; simp [flat, enPl]
      have HFL := Lib.hid hfl
      obtain ⟨n, hn⟩ : ∃ n, dN S p = n := ⟨_, rfl⟩
      obtain ⟨s, hs⟩ : ∃ s, str (bytesL S p n) = s := ⟨_, rfl⟩
      rw [hn] at kf hn9 hlen hpd HN HFL hd
      rw [hs] at kf hlen HFL
      have HNN := Lib.hid (And.intro hn (And.intro hs hlen))
      have q1 : (0 : Int) ≤ (s.size : Int) := Int.natCast_nonneg _
      have q2 : (s.size : Int) ≤ 300000 := by omega
      clear hfl hn hs hn9 hlen
      go_wp2_with fail
      (with_reducible refine (kf).mono ?_); rintro e2 W2 ⟨rfl, hb3⟩
      have hown2 := own_below hown1 hb3
      have hb4 := hb2.trans (hb3.mono hb2.size)
      have hb9 := Blk.new W2 44 #[.int .i64 (p : Int), .string s]
      have hown3 := own_below hown2 ((Below.refl W2.heap.size W2).alloc (Nat.le_refl _) (.cells #[.int .i64 (p : Int), .string s] 44))
      have hsz2 : w.heap.size ≤ (W2.alloc (.cells #[.int .i64 (p : Int), .string s] 44)).heap.size := by have := hb4.size; simp; omega
      have hb5 := hb4.alloc hb4.size (.cells #[.int .i64 (p : Int), .string s] 44)
      clear kf hown1 hown2 hb3 hb2 hb4
      go_wp2_with (at_builtin; refine wpList_app rfl _ _ rfl elemPl rfl hown3 rfl rfl (blk_news hb9) (by simp [Value.oneCell']) (by omega) (by unfold maxLen; omega) hsz2 ?_)
      intro v9 w8 hown9 hb8
      have hb6 := hb5.trans hb8
      clear hown3 hb9 hb5 hb8
      go_wp2_with fail
      rw [show (p : Int) + (s.size : Int) = ((p + n : Nat) : Int) by rw [HNN.out.2.2]; omega]
      go_step3
      refine ⟨rfl, j0_intro (A := A ++ [(p, n)]) (p := p + n) (out := v9) ?_ hb6 ?_ ?_ ?_ ?_, ?_⟩
      · kernel_rfl
      · rw [HFL.out, List.length_append]; exact hown9
      · rw [← HA.out, HN.out, List.append_assoc]; rfl
      · exact hpd
      · simp; omega
      · show 191 * S.R + 1 - ((p + n : Nat) : Int).toNat < 191 * S.R + 1 - ((p : Nat) : Int).toNat
        omega
    · rw [decide_eq_false hd] at kf
      have HT1 := HH.out.below hb2
      have kse := fun V (hb : Below W1.heap.size W1 V) => search_any B v S.st.length S.st ((p : Int) + 1) V rfl (by have := HOK.out.st; omega) (HT1.below hb).st (HOK.out.up.imp (fun h => Nat.le_of_lt h))
      rw [show (fun z : Nat => decide ((z : Int) < (p : Int) + 1)) = (fun z : Nat => decide (z < p + 1)) from by funext z; congr 1; apply propext; omega, show S.st.countP (fun z : Nat => decide (z < p + 1)) = below S.st (p + 1) from rfl] at kse
      obtain ⟨bb, hbb⟩ : ∃ bb, decide (∃ z ∈ S.st, (z : Int) = (p : Int) + 1) = bb := ⟨_, rfl⟩
      rw [hbb] at kse
      have hil := below_le S.st (p + 1)
      have HNX := Lib.hid (show nxt S p = (S.st.drop (below S.st (p + 1))).head? from rfl)
      obtain ⟨i, hi⟩ : ∃ i, below S.st (p + 1) = i := ⟨_, rfl⟩
      rw [hi] at kse hil HNX
      have HDD := Lib.hid hd
      have HT1' := Lib.hid HT1
      obtain ⟨n, hn⟩ : ∃ n, dN S p = n := ⟨_, rfl⟩
      rw [hn] at kf
      clear hi hbb hd hn HT1
      go_wp2_with fail
      (with_reducible refine (kf).mono ?_); rintro e2 W2 ⟨rfl, hb3⟩
      have HT2 := Lib.hid (HT1'.out.below hb3)
      have hown2 := own_below hown1 hb3
      have hb4 := hb2.trans (hb3.mono hb2.size)
      have k3 := kse W2 hb3
      have c1 := Blk.cell HT2.out.box 1 (v := v) rfl
      clear kf kse hown1 hb3 hb2 HT1'
      go_wp2_with fail
      (with_reducible refine (k3).mono ?_); rintro e3 W3 ⟨rfl, q, rfl⟩
      have hbq := below_drewN (Below.refl W2.heap.size W2) q
      have HT3 := Lib.hid (HT2.out.below hbq)
      have hown3 := own_below hown2 hbq
      have hb5 := hb4.trans (hbq.mono hb4.size)
      have d1 := Blk.cell HT3.out.box 1 (v := v) rfl
      have hst := HT3.out.st
      obtain ⟨av, cv, hvf⟩ := own_form hst
      subst hvf
      clear k3 c1 hown2 hb4 hbq HT2
      by_cases hix : i < S.st.length
      · have t2 : decide (i < S.st.length) = true := decide_eq_true hix
        have hcell : ∃ g, av = some ⟨g, 0, none⟩ ∧ (W2.drewN q).cell? ⟨g, i, none⟩ = some (.int .i64 ((S.st[i]'hix : Nat) : Int)) := by
          rcases hst.2 with ⟨_, h0⟩ | ⟨g, cap, cur, e, _⟩
          · omega
          · simp only [Value.slice.injEq, true_and] at e
            obtain ⟨rfl, rfl⟩ := e
            refine ⟨g, rfl, ?_⟩
            rw [hst.cellAt i (by omega)]
            simp [ints, hix]
        obtain ⟨g, rfl, hce⟩ := hcell
        have HNX2 := Lib.hid (show nxt S p = some (S.st[i]'hix) from by rw [HNX.out, List.head?_drop, List.getElem?_eq_getElem hix])
        obtain ⟨z, hz⟩ : ∃ z, S.st[i]'hix = z := ⟨_, rfl⟩
        rw [hz] at hce HNX2
        have j0 : (0 : Int) ≤ (i : Int) := Int.natCast_nonneg _
        have j1 : (i : Int) < (S.st.length : Int) := by omega
        clear hst hil hz
        go_wp2_with fail
        go_step3
        have hzp := nxt_gt HOK.out.up HNX2.out
        have hzl := HOK.out.lt z (nxt_mem HNX2.out)
        refine ⟨rfl, j0_intro (A := A) (p := z) (out := out) (by kernel_rfl) hb5 hown3 ?_ (by omega) (by omega), ?_⟩
        · rw [← outAt_next HOK.out hp HDD.out HNX2.out]; exact HA.out
        · show 191 * S.R + 1 - ((z : Nat) : Int).toNat < 191 * S.R + 1 - ((p : Nat) : Int).toNat
          omega
      · have t2 : decide (i < S.st.length) = false := decide_eq_false hix
        have HNX2 := Lib.hid (show nxt S p = none from by rw [HNX.out, List.head?_drop, List.getElem?_eq_none (by omega)])
        have HAE := Lib.hid (show A = outAt S 0 from by
          have := HA.out
          rw [outAt_end hp HDD.out HNX2.out, List.append_nil] at this
          exact this)
        clear hst hil hix
        go_wp2_with fail
        rw [HR.out]
        rw [HAE.out] at hown3
        exact ⟨hb5, _, rfl, hown3⟩
  · intro b0
    go_wp2_with fail
    go_step3
    rename_i hK
    refine hK _ _ ?_
    exact b0 _ _ (j0_intro (A := []) (p := 0) (out := .slice none 0 0) (by kernel_rfl) (Below.refl _ _) (World.ownsRow_nil _ _ _ _) rfl (by omega) (by simp))
end Go.Proofs.YtlocgilgdnhnlaaGreatDoor.TbU
