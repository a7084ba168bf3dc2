/- Few, same, Plain: lists of descriptors. -/
import Derived.Test.YtbceakdifklocaaAp
import Derived.Test.YtbceakdifklocaaDsE
namespace Go.Proofs.Ytbceakdifklocaa.DsP
open Go.RowKit Go.Proofs.Ytbceakdifklocaa.Q Go.Proofs.Ytbceakdifklocaa.Mem Go.Proofs.Ytbceakdifklocaa.DsA Go.Proofs.Ytbceakdifklocaa.DsB Go.Proofs.Ytbceakdifklocaa.DsC Go.Proofs.Ytbceakdifklocaa.DsD Go.Proofs.Ytbceakdifklocaa.DsE Go.Proofs.Ytbceakdifklocaa.Rg Go.Proofs.Ytbceakdifklocaa.Ap

/-- a descriptor's cells -/
def enD (d : Dc) : List Value := [.int .i64 d.tag, .string d.body]
theorem enD_len (d : Dc) : (enD d).length = 2 := rfl
theorem enD_one (d : Dc) : ∀ u ∈ enD d, u.oneCell' = true := by intro u hu; simp [enD] at hu; rcases hu with rfl | rfl <;> rfl
theorem ds_seq {w : World} {a : Option Addr} {L : List Dc} (h : Ds w a L) : Seq enD 2 w a L := fun i x hi => by
  obtain ⟨b, o, e, hlt, c0, c1⟩ := h i x hi
  refine ⟨b, o, e, hlt, fun j u hj => ?_⟩
  match j, hj with
  | 0, hj => cases hj; exact c0
  | 1, hj => cases hj; exact c1
theorem seq_ds {w : World} {a : Option Addr} {L : List Dc} (h : Seq enD 2 w a L) : Ds w a L := fun i x hi => by
  obtain ⟨b, o, e, hlt, hc⟩ := h i x hi
  exact ⟨b, o, e, hlt, hc 0 _ rfl, hc 1 _ rfl⟩
theorem elemD : Elem Try.prog 45 30 2 24 := elem_of Try.underlying45 (z := .agg #[.int .i64 0, .string ByteArray.empty]) (by kernel_rfl) rfl (by decide)
theorem elemR : Elem Try.prog 52 35 2 24 := elem_of Try.underlying52 (z := .agg #[.int .i64 0, .string ByteArray.empty]) (by kernel_rfl) rfl (by decide)

def few (L : List Dc) : Bool := L.all (fun d => decide (d.body.size ≤ 300)) && decide (L.length ≤ 40)

set_option maxRecDepth 100000
theorem few_any (a : Option Addr) (c : Nat) (L : List Dc) (w : World) (hl : L.length ≤ 9223372036854775807) (hL : Ds w a L) :
    Calls Try.prog 17 #[.slice a L.length c] w fun e w' => e = .returned (.bool (few L)) ∧ w = w' := by
  have HL := Lib.hid hL
  clear hL
  go_enter Try.func17, Try.ntmps17
  go_wp2_with fail
  go_loop [3] (fun i => ∃ k : Nat, k ≤ L.length ∧ i = .int .i64 k ∧ Hid ((L.take k).all (fun d => decide (d.body.size ≤ 300)) = true)) (fun i => L.length - (intOf i).toNat)
  case atStart => exact ⟨0, by omega, rfl, Lib.hid rfl⟩
  case round =>
    obtain ⟨k, hk, rfl, hI⟩ := hrel
    by_cases hkl : k < L.length
    · have t0 : decide (k < L.length) = true := by simpa using hkl
      obtain ⟨x, hx⟩ : ∃ x, L[k]? = some x := ⟨L[k], List.getElem?_eq_getElem hkl⟩
      obtain ⟨b1, o1, rfl, l1, c0, c1⟩ := HL.out k x hx
      by_cases hs : 300 < x.body.size
      · have t1 : decide (300 < (x.body.size : Int)) = true := by simp; omega
        have hbad : few L = false := by
          unfold few
          rw [Bool.and_eq_false_iff]
          left
          cases hb : L.all (fun d => decide (d.body.size ≤ 300)) with
          | false => rfl
          | true => have := List.all_eq_true.1 hb x (List.mem_of_getElem? hx); simp at this; omega
        have HB := Lib.hid hbad
        clear hx hs hbad
        go_wp2_with fail
        go_ret
        exact ⟨by rw [HB.out]; rfl, rfl⟩
      · have t1 : decide (300 < (x.body.size : Int)) = false := by simp; omega
        have HI := Lib.hid (show (L.take (k + 1)).all (fun d => decide (d.body.size ≤ 300)) = true by rw [List.take_add_one, hx]; simp only [List.all_append, Bool.and_eq_true]; exact ⟨hI.out, by simp; omega⟩)
        clear hx hs
        go_wp2_with fail
        go_round
        case rel => exact ⟨k + 1, by omega, by go_num, HI⟩
        case measure => simp [intOf]; omega
    · obtain rfl : k = L.length := by omega
      have t0 : decide (L.length < L.length) = false := by simp
      obtain ⟨b, hb⟩ : ∃ b, decide (L.length ≤ 40) = b := ⟨_, rfl⟩
      have t1 : decide ((L.length : Int) ≤ 40) = b := by rw [← hb]; simp; omega
      have HB := Lib.hid (show few L = b by have := hI.out; rw [List.take_length] at this; unfold few; rw [this, hb]; rfl)
      clear hb hI
      go_wp2_with fail
      go_ret
      exact ⟨by rw [HB.out]; rfl, rfl⟩

/-- a slice that is nil, or lies in memory that was made meanwhile -/
def Fresh (w : World) (a : Option Addr) : Prop := ∀ (b o : Nat), a = some ⟨b, o, none⟩ → w.heap.size ≤ b
theorem plain_new (a : Option Addr) (c : Nat) (L : List Dc) (w : World) (hl : L.length ≤ 1000000) (hL : Ds w a L) :
    Calls Try.prog 21 #[.slice a L.length c] w fun e w' => ∃ a' c', e = .returned (.slice a' L.length c') ∧ (Ds w' a' L ∧ Fresh w a') ∧ Below w.heap.size w w' := by
  have HL := Lib.hid hL
  clear hL
  go_enter Try.func21, Try.ntmps21
  go_wp2_with fail
  go_loopw [3, 4] (fun o i wr => ∃ k : Nat, k ≤ L.length ∧ i = .int .i64 k ∧ wr.ownsRow w.heap.size 35 2 o k (flat enD (L.take k)) ∧ Below w.heap.size w wr) (fun _ i _ => L.length - (intOf i).toNat)
  case atStart => exact ⟨0, by omega, rfl, World.ownsRow_nil _ _ _ _, Below.refl _ _⟩
  case round =>
    obtain ⟨k, hk, rfl, hown, hb⟩ := hrel
    by_cases hkl : k < L.length
    · have t0 : decide (k < L.length) = true := by simpa using hkl
      obtain ⟨x, hx⟩ : ∃ x, L[k]? = some x := ⟨L[k], List.getElem?_eq_getElem hkl⟩
      obtain ⟨b1, o1, rfl, l1, c0, c1⟩ := HL.out.below (Nat.le_refl _) hb k x hx
      have f0 := fun p => (cell_ext l1 c0 p)
      have f1 := fun p => (cell_ext l1 c1 p)
      have hk0 : (0 : Int) ≤ (k : Int) := Int.natCast_nonneg _
      have hk1 : (k : Int) < (L.length : Int) := by omega
      have HX := Lib.hid hx
      clear hx c0 c1
      go_wp2_with fail
      refine Go.Proofs.Ytbceakdifklocaa.Rg.region_new [(12, newS 1 35 #[.int .i64 x.tag, .string x.body] 0)] 13 (by kernel_rfl) (by kernel_rfl) (by kernel_rfl) (lk_cons newS_inh lk_nil) (lk_cons newS_mono lk_nil) ?_
      intro σ hσ
      simp only [List.take_succ_cons, List.take_zero, List.drop_succ_cons, List.drop_zero]
      refine Go.Proofs.Ytbceakdifklocaa.Rg.wpN_take 12 (by kernel_rfl) (by kernel_rfl) (by kernel_rfl) ?_
      simp only [List.take_succ_cons, List.take_zero, List.drop_succ_cons, List.drop_zero]
      repeat (go_big_quiet_step (fail))
      refine wpQuiet_nil ?_
      refine Go.Proofs.Ytbceakdifklocaa.Rg.wpN_sp _ rfl (by kernel_rfl) (spAt_newS 1 35 #[.int .i64 x.tag, .string x.body] (Nat.zero_le _) (by intro w0; go_simp)) ?_
      simp only [Act.put, List.setIfInBounds_toArray, List.set_cons_zero, List.set_cons_succ]
      refine Go.Proofs.Ytbceakdifklocaa.Rg.wpN_nil ?_
      rintro w9 ⟨pq, rfl⟩ hp
      obtain ⟨g9, hg9, _, hb9⟩ := hp 12 _ rfl
      rw [hg9]
      clear hp hσ
      have hown0 := own_below hown (below_ext _ pq)
      have hb0 := hb.trans ((below_ext _ pq).mono hb.size)
      have hsz0 := hb0.size
      refine wpList_app rfl _ _ rfl elemR rfl hown0 rfl rfl (blk_news hb9) (by simp [Value.oneCell']) (by omega) (by unfold maxLen; omega) hsz0 ?_
      intro v9 w8 hown9 hb8
      have hb7 := hb0.trans hb8
      clear hown0 hb0 hb8 hb9 hg9 hsz0
      have hown3 : w8.ownsRow w.heap.size 35 2 v9 (k + 1) (flat enD (L.take (k + 1))) := by rw [flat_snoc HX.out]; exact hown9
      clear hown hb hown9 f0 f1
      go_wp2_with fail
      go_roundw
      case rel => exact ⟨k + 1, by omega, by go_num, hown3, hb7⟩
      case measure => simp [intOf]; omega
    · obtain rfl : k = L.length := by omega
      have t0 : decide (L.length < L.length) = false := by simp
      rw [List.take_length] at hown
      obtain ⟨a', c', rfl⟩ := own_form hown
      have HO := Lib.hid (seq_ds (own_seq enD_len hown rfl))
      have HF := Lib.hid (show Fresh w a' from fun b o e => (hown.lt b (by rw [e]; rfl)).1)
      go_wp2_with fail
      go_ret
      exact ⟨a', c', rfl, ⟨HO.out, HF.out⟩, hb⟩
theorem plain_any (a : Option Addr) (c : Nat) (L : List Dc) (w : World) (hl : L.length ≤ 1000000) (hL : Ds w a L) :
    Calls Try.prog 21 #[.slice a L.length c] w fun e w' => ∃ a' c', e = .returned (.slice a' L.length c') ∧ Ds w' a' L ∧ Below w.heap.size w w' :=
  (plain_new a c L w hl hL).mono fun _ _ ⟨a', c', h1, h2, h3⟩ => ⟨a', c', h1, h2.1, h3⟩
theorem same_any (a b : Option Addr) (c c' n m : Nat) (L M : List Dc) (w : World) (hn : L.length = n) (hm : M.length = m) (hl : n ≤ 9223372036854775807) (hl2 : m ≤ 9223372036854775807) (hL : Ds w a L) (hM : Ds w b M) :
    Calls Try.prog 20 #[.slice a n c, .slice b m c'] w fun e w' => e = .returned (.bool (decide (L = M))) ∧ Below w.heap.size w w' := by
  subst hn hm
  by_cases hlen : L.length = M.length
  · have t1 : ((L.length : Int) != (M.length : Int)) = false := by simp; omega
    have HL := Lib.hid hL
    have HM := Lib.hid hM
    clear hL hM
    go_enter Try.func20, Try.ntmps20
    go_wp2_with fail
    go_loopw [5] (fun i wr => ∃ k : Nat, k ≤ L.length ∧ i = .int .i64 k ∧ Hid (L.take k = M.take k) ∧ Below w.heap.size w wr) (fun i _ => L.length - (intOf i).toNat)
    case atStart => exact ⟨0, by omega, rfl, Lib.hid rfl, Below.refl _ _⟩
    case round =>
      obtain ⟨k, hk, rfl, hI, hb⟩ := hrel
      by_cases hkl : k < L.length
      · have t0 : decide (k < L.length) = true := by simpa using hkl
        obtain ⟨x, hx⟩ : ∃ x, L[k]? = some x := ⟨L[k], List.getElem?_eq_getElem hkl⟩
        obtain ⟨y, hy⟩ : ∃ y, M[k]? = some y := ⟨M[k], List.getElem?_eq_getElem (by omega)⟩
        obtain ⟨b1, o1, rfl, l1, c0, c1⟩ := HL.out.below (Nat.le_refl _) hb k x hx
        obtain ⟨b2, o2, rfl, l2, d0, d1⟩ := HM.out.below (Nat.le_refl _) hb k y hy
        have f0 := fun p => (cell_ext l1 c0 p)
        have f1 := fun p => (cell_ext l1 c1 p)
        have g0 := fun p => (cell_ext l2 d0 p)
        have g1 := fun p => (cell_ext l2 d1 p)
        have hk0 : (0 : Int) ≤ (k : Int) := Int.natCast_nonneg _
        have hk1 : (k : Int) < (L.length : Int) := by omega
        have hk2 : (k : Int) < (M.length : Int) := by omega
        have HS := Lib.hid (show x = y → L.take (k + 1) = M.take (k + 1) from fun e => by rw [List.take_add_one, List.take_add_one, hx, hy, hI.out, e])
        have HN := Lib.hid (show x ≠ y → L ≠ M from fun hne e => by subst e; rw [hx] at hy; injection hy with hy; exact hne hy)
        clear hx hy c0 c1 d0 d1
        by_cases hxt : x.tag = y.tag
        · have t2 : (x.tag != y.tag) = false := by simp [hxt]
          by_cases hxb : x.body = y.body
          · have t3 : (x.body.toList == y.body.toList) = true := by rw [hxb]; simp
            have HE := Lib.hid (dc_iff.2 ⟨hxt, hxb⟩)
            clear hxt hxb
            go_wp2_with fail
            refine Go.Proofs.Ytbceakdifklocaa.Q.region_ext (by kernel_rfl) (by kernel_rfl) ?_
            repeat (go_big_quiet_step (fail))
            refine wpQuiet_nil ?_
            rintro w9 ⟨pq, rfl⟩
            have hb2 := hb.trans ((below_ext wr pq).mono hb.size)
            have HS2 := Lib.hid (HS.out HE.out)
            clear hb f0 f1 g0 g1 t2 t3
            go_wp2_with fail
            go_roundw
            case rel => exact ⟨k + 1, by omega, by go_num, HS2, hb2⟩
            case measure => simp [intOf]; omega
          · have t3 : (x.body.toList == y.body.toList) = false := by rw [bytes_eq]; simpa using hxb
            have HE := Lib.hid (HN.out (fun e => hxb (by rw [e])))
            clear hxt hxb
            go_wp2_with fail
            refine Go.Proofs.Ytbceakdifklocaa.Q.region_ext (by kernel_rfl) (by kernel_rfl) ?_
            repeat (go_big_quiet_step (fail))
            refine wpQuiet_nil ?_
            rintro w9 ⟨pq, rfl⟩
            have hb2 := hb.trans ((below_ext wr pq).mono hb.size)
            clear hb f0 f1 g0 g1 t2 t3
            go_wp2_with fail
            go_ret
            exact ⟨by rw [show decide (L = M) = false by simpa using HE.out]; rfl, hb2⟩
        · have t2 : (x.tag != y.tag) = true := by simpa using hxt
          have HE := Lib.hid (HN.out (fun e => hxt (by rw [e])))
          clear hxt
          go_wp2_with fail
          refine Go.Proofs.Ytbceakdifklocaa.Q.region_ext (by kernel_rfl) (by kernel_rfl) ?_
          repeat (go_big_quiet_step (fail))
          refine wpQuiet_nil ?_
          rintro w9 ⟨pq, rfl⟩
          have hb2 := hb.trans ((below_ext wr pq).mono hb.size)
          clear hb f0 f1 g0 g1 t2
          go_wp2_with fail
          go_ret
          exact ⟨by rw [show decide (L = M) = false by simpa using HE.out]; rfl, hb2⟩
      · obtain rfl : k = L.length := by omega
        have t0 : decide (L.length < L.length) = false := by simp
        have hE : L = M := by have := hI.out; rw [List.take_length, hlen, List.take_length] at this; exact this
        have HE := Lib.hid hE
        clear hI hE
        go_wp2_with fail
        go_ret
        exact ⟨by rw [show decide (L = M) = true by simpa using HE.out]; rfl, hb⟩
  · have t1 : ((L.length : Int) != (M.length : Int)) = true := by simp; omega
    have HE := Lib.hid (show decide (L = M) = false by simp; intro e; rw [e] at hlen; exact hlen rfl)
    clear hL hM
    go_enter Try.func20, Try.ntmps20
    go_wp2_with fail
    go_ret
    exact ⟨by rw [HE.out]; rfl, Below.refl _ _⟩
end Go.Proofs.Ytbceakdifklocaa.DsP
