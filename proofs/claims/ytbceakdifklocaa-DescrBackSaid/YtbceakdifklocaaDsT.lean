/- descr.Find. -/
import Derived.Test.YtbceakdifklocaaDsP
namespace Go.Proofs.Ytbceakdifklocaa.DsT
open Go.RowKit Go.Proofs.Ytbceakdifklocaa.Q Go.Proofs.Ytbceakdifklocaa.Mem Go.Proofs.Ytbceakdifklocaa.DsA Go.Proofs.Ytbceakdifklocaa.DsB Go.Proofs.Ytbceakdifklocaa.DsC Go.Proofs.Ytbceakdifklocaa.DsD Go.Proofs.Ytbceakdifklocaa.DsE Go.Proofs.Ytbceakdifklocaa.DsP Go.Proofs.Ytbceakdifklocaa.Rg Go.Proofs.Ytbceakdifklocaa.Ap

/-- the first one of a tag -/
def First (tag : Int) (L : List Dc) (i : Nat) (d : Dc) : Prop := L[i]? = some d ∧ d.tag = tag ∧ ∀ (j : Nat), j < i → ∀ (y : Dc), L[j]? = some y → y.tag ≠ tag
def Nowhere (tag : Int) (L : List Dc) : Prop := ∀ (j : Nat) (y : Dc), L[j]? = some y → y.tag ≠ tag

set_option maxRecDepth 100000
theorem find1_any (B : Nat) (tag : Int) (x : Dc) (w : World) (hB : B < w.heap.size) (hc : w.cell? ⟨B, 0, none⟩ = some (.int .i64 tag)) :
    Calls Try.prog 48 #[.agg #[.int .i64 x.tag, .string x.body], .pointer (some ⟨B, 0, none⟩)] w fun e w' => e = .returned (.bool (x.tag == tag)) ∧ Below w.heap.size w w' := by
  obtain ⟨b, hb⟩ : ∃ b, (x.tag == tag) = b := ⟨_, rfl⟩
  rw [hb]
  go_enter Try.func48, Try.ntmps48
  go_wp2_with fail
  go_ret
  exact ⟨rfl, (Below.refl _ _).alloc (Nat.le_refl _) _⟩
theorem ifind_any (B : Nat) (tag : Int) (a : Option Addr) (c n : Nat) (L : List Dc) (w : World) (hn : L.length = n) (hl : n ≤ 9223372036854775807) (hB : B < w.heap.size) (hc : w.cell? ⟨B, 0, none⟩ = some (.int .i64 tag)) (hL : Ds w a L) :
    Calls Try.prog 47 #[.slice a n c, .func (.func 48) #[] #[.pointer (some ⟨B, 0, none⟩)]] w fun e w' => (∃ r : Int, e = .returned (.int .i64 r) ∧ ((∃ (i : Nat) (d : Dc), r = (i : Int) ∧ First tag L i d) ∨ (r = -1 ∧ Nowhere tag L))) ∧ Below w.heap.size w w' := by
  subst hn
  have HL := Lib.hid hL
  have HC := Lib.hid hc
  clear hL hc
  go_enter Try.func47, Try.ntmps47
  go_wp2_with fail
  go_loopw [8] (fun i wr => ∃ k : Nat, k ≤ L.length ∧ i = .int .i64 k ∧ Hid (∀ j, j < k → ∀ y, L[j]? = some y → y.tag ≠ tag) ∧ Below w.heap.size w wr) (fun i _ => L.length - (intOf i).toNat)
  case atStart => exact ⟨0, by omega, rfl, Lib.hid (fun j hj => by omega), Below.refl _ _⟩
  case round =>
    obtain ⟨k, hk, rfl, hI, hb⟩ := hrel
    by_cases hkl : k < L.length
    · have t0 : decide (k < L.length) = true := by simpa using hkl
      obtain ⟨x, hx⟩ : ∃ x, L[k]? = some x := ⟨L[k], List.getElem?_eq_getElem hkl⟩
      obtain ⟨b1, o1, rfl, l1, c0, c1⟩ := HL.out.below (Nat.le_refl _) hb k x hx
      have kc := fun V hB hc => find1_any B tag x V hB hc
      have hBr : B < wr.heap.size := Nat.lt_of_lt_of_le hB hb.size
      have hcr := (hb.cell (p := ⟨B, 0, none⟩) hB).trans HC.out
      by_cases hxt : x.tag = tag
      · have HF := Lib.hid (show First tag L k x from ⟨hx, hxt, hI.out⟩)
        rw [show (x.tag == tag) = true by simpa using hxt] at kc
        clear hx hxt
        go_wp2_with fail
        (with_reducible refine (kc _ hBr hcr).mono ?_); rintro e w1 ⟨rfl, hb1⟩
        have hb2 := hb.trans (hb1.mono hb.size)
        clear kc hb hb1 c0 c1 hcr
        go_wp2_with fail
        go_ret
        exact ⟨⟨_, rfl, Or.inl ⟨k, x, rfl, HF.out⟩⟩, hb2⟩
      · have HI := Lib.hid (show ∀ j, j < k + 1 → ∀ y, L[j]? = some y → y.tag ≠ tag from fun j hj y hy => by
          rcases Nat.lt_or_ge j k with h | h
          · exact hI.out j h y hy
          · obtain rfl : j = k := by omega
            rw [hx] at hy; injection hy with hy; rw [← hy]; exact hxt)
        rw [show (x.tag == tag) = false by simpa using hxt] at kc
        clear hx hxt
        go_wp2_with fail
        (with_reducible refine (kc _ hBr hcr).mono ?_); rintro e w1 ⟨rfl, hb1⟩
        have hb2 := hb.trans (hb1.mono hb.size)
        clear kc hb hb1 c0 c1 hcr
        go_wp2_with fail
        go_roundw
        case rel => exact ⟨k + 1, by omega, by go_num, HI, hb2⟩
        case measure => simp [intOf]; omega
    · obtain rfl : k = L.length := by omega
      have t0 : decide (L.length < L.length) = false := by simp
      go_wp2_with fail
      go_ret
      exact ⟨⟨_, rfl, Or.inr ⟨rfl, fun j y hy => hI.out j (List.getElem?_eq_some_iff.1 hy).1 y hy⟩⟩, hb⟩
/-- what Find says -/
def Found (tag : Int) (L : List Dc) (d : Dc) (e : Int) : Prop := (e = 0 ∧ ∃ i : Nat, First tag L i d) ∨ (e = 18 ∧ d = ⟨0, nob⟩ ∧ Nowhere tag L)
theorem find_any (tag : Int) (a : Option Addr) (c n : Nat) (L : List Dc) (w : World) (hn : L.length = n) (hl : n ≤ 9223372036854775807) (hL : Ds w a L) :
    Calls Try.prog 24 #[.slice a n c, .int .i64 tag] w fun e w' => (∃ (d : Dc) (c : Int), e = .returned (.tuple #[.agg #[.int .i64 d.tag, .string d.body], .int .i64 c]) ∧ Found tag L d c) ∧ Below w.heap.size w w' := by
  subst hn
  have hB := bk2 w 3 30 #[.int .i64 tag] #[.int .i64 0, .string { data := #[] }]
  have hL2 := hL.below (Nat.le_refl _) hB.be
  have ki := ifind_any w.heap.size tag a c L.length L _ rfl hl (hB.lt 1 rfl) (Blk.cell (hB.nth 1 rfl) 0 rfl) hL2
  have HL := Lib.hid hL2
  have HB := Lib.hid hB
  clear hL hL2 hB
  go_enter Try.func24, Try.ntmps24
  go_wp2_with fail
  (with_reducible refine (ki).mono ?_); rintro e w1 ⟨⟨r, rfl, hr⟩, hb⟩
  have hB1 := HB.out.below hb
  have hL1 := HL.out.below (Nat.le_refl _) hb
  clear ki HB HL hb
  rcases hr with ⟨i, d, rfl, hF⟩ | ⟨rfl, hN⟩
  · obtain ⟨b1, o1, rfl, l1, c0, c1⟩ := hL1 i d hF.1
    have hi : i < L.length := (List.getElem?_eq_some_iff.1 hF.1).1
    have t0 : decide ((i : Int) < 0) = false := by simp
    have hi0 : (0 : Int) ≤ (i : Int) := Int.natCast_nonneg _
    have hi1 : (i : Int) < (L.length : Int) := by omega
    have HF := Lib.hid hF
    have HB := Lib.hid hB1
    have z0 := Blk.cell (hB1.nth 0 rfl) 0 (v := .int .i64 0) rfl
    have z1 := Blk.cell (hB1.nth 0 rfl) 1 (v := .string { data := #[] }) rfl
    have zf0 := Blk.frozen (hB1.nth 0 rfl) 0
    have zf1 := Blk.frozen (hB1.nth 0 rfl) 1
    clear hF hB1 hL1
    go_wp2_with fail
    have hS : Blk ((w1.setCell ⟨w.heap.size + 1, 0, none⟩ (.int .i64 d.tag)).setCell ⟨w.heap.size + 1, 1, none⟩ (.string d.body)) (w.heap.size + 1) 30 #[.int .i64 d.tag, .string d.body] := (row_set [.int .i64 d.tag, .string d.body] (HB.out.nth 0 rfl)).1
    have hE : Below w.heap.size w ((w1.setCell ⟨w.heap.size + 1, 0, none⟩ (.int .i64 d.tag)).setCell ⟨w.heap.size + 1, 1, none⟩ (.string d.body)) := below_setCells (Nat.le_succ _) [.int .i64 d.tag, .string d.body] 0 w w1 HB.out.be
    exact bodyPost_ret (v := .tuple #[.agg #[.int .i64 d.tag, .string d.body], .int .i64 0]) (by simp [results, Try.results24, go_sem, Blk.cell hS 0 (v := .int .i64 d.tag) rfl, Blk.cell hS 1 (v := .string d.body) rfl]) rfl ⟨⟨d, 0, rfl, Or.inl ⟨rfl, i, HF.out⟩⟩, hE⟩
  · have t0 : decide ((-1 : Int) < 0) = true := by decide
    have HN := Lib.hid hN
    have HB := Lib.hid hB1
    have z0 := Blk.cell (hB1.nth 0 rfl) 0 (v := .int .i64 0) rfl
    have z1 := Blk.cell (hB1.nth 0 rfl) 1 (v := .string { data := #[] }) rfl
    have zf0 := Blk.frozen (hB1.nth 0 rfl) 0
    have zf1 := Blk.frozen (hB1.nth 0 rfl) 1
    clear hN hB1 hL1
    go_wp2_with fail
    have hS : Blk ((w1.setCell ⟨w.heap.size + 1, 0, none⟩ (.int .i64 0)).setCell ⟨w.heap.size + 1, 1, none⟩ (.string { data := #[] })) (w.heap.size + 1) 30 #[.int .i64 0, .string { data := #[] }] := (row_set [.int .i64 0, .string { data := #[] }] (HB.out.nth 0 rfl)).1
    have hE : Below w.heap.size w ((w1.setCell ⟨w.heap.size + 1, 0, none⟩ (.int .i64 0)).setCell ⟨w.heap.size + 1, 1, none⟩ (.string { data := #[] })) := below_setCells (Nat.le_succ _) [.int .i64 0, .string { data := #[] }] 0 w w1 HB.out.be
    exact bodyPost_ret (v := .tuple #[.agg #[.int .i64 0, .string { data := #[] }], .int .i64 18]) (by simp [results, Try.results24, go_sem, Blk.cell hS 0 (v := .int .i64 0) rfl, Blk.cell hS 1 (v := .string { data := #[] }) rfl]) rfl ⟨⟨⟨0, nob⟩, 18, rfl, Or.inr ⟨rfl, rfl, HN.out⟩⟩, hE⟩
end Go.Proofs.Ytbceakdifklocaa.DsT
