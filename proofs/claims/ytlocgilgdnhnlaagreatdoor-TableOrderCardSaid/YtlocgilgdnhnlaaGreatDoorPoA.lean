/- poly, walked: Trim, Degree, Mul, Roots. -/
import Derived.Test.YtlocgilgdnhnlaaGreatDoorPkG
import Derived.Test.YtlocgilgdnhnlaaGreatDoorGfA
namespace Go.Proofs.YtlocgilgdnhnlaaGreatDoor.PoA
open Go Go.RowKit Go.Proofs.YtlocgilgdnhnlaaGreatDoor.Q Go.Proofs.YtlocgilgdnhnlaaGreatDoor.Mem Go.Proofs.YtlocgilgdnhnlaaGreatDoor.Rg Go.Proofs.YtlocgilgdnhnlaaGreatDoor.Ap Go.Proofs.YtlocgilgdnhnlaaGreatDoor.St Go.Proofs.YtlocgilgdnhnlaaGreatDoor.BiW Go.Proofs.YtlocgilgdnhnlaaGreatDoor.BiG Go.Proofs.YtlocgilgdnhnlaaGreatDoor.CrB Go.Proofs.YtlocgilgdnhnlaaGreatDoor.SeEq Go.Proofs.YtlocgilgdnhnlaaGreatDoor.TbM Go.Proofs.YtlocgilgdnhnlaaGreatDoor.GfP Go.Proofs.YtlocgilgdnhnlaaGreatDoor.PoP Go.Proofs.YtlocgilgdnhnlaaGreatDoor.RsP Go.Proofs.YtlocgilgdnhnlaaGreatDoor.GfA

/-- without noughts at the end -/
def trimL (l : List UInt8) : List UInt8 := (l.reverse.dropWhile (· == 0)).reverse
theorem trim_nil : trimL [] = [] := rfl
theorem trim_zero (l : List UInt8) : trimL (l ++ [0]) = trimL l := by unfold trimL; rw [List.reverse_append]; rfl
theorem trim_ne (l : List UInt8) {c : UInt8} (h : c ≠ 0) : trimL (l ++ [c]) = l ++ [c] := by
  unfold trimL
  rw [List.reverse_append]
  show ((c :: l.reverse).dropWhile (· == 0)).reverse = _
  rw [List.dropWhile_cons, if_neg (by simpa using h), List.reverse_cons, List.reverse_reverse]
theorem trim_take {l : List UInt8} {k : Nat} {c : UInt8} (h : l[k]? = some c) : (c = 0 → trimL (l.take (k + 1)) = trimL (l.take k)) ∧ (c ≠ 0 → trimL (l.take (k + 1)) = l.take (k + 1)) := by
  rw [List.take_add_one, h]
  exact ⟨fun e => by rw [e]; exact trim_zero _, fun e => trim_ne _ e⟩
/-- a list's coefficients -/
def fa (l : List UInt8) (i : Nat) : UInt8 := l.getD i 0
theorem fa_out {l : List UInt8} {i : Nat} (h : l.length ≤ i) : fa l i = 0 := by simp [fa, List.getD_eq_getElem?_getD, List.getElem?_eq_none h]
theorem fa_in {l : List UInt8} {i : Nat} {b : UInt8} (h : l[i]? = some b) : fa l i = b := by simp [fa, List.getD_eq_getElem?_getD, h]
theorem trim_len (l : List UInt8) : (trimL l).length ≤ l.length := by
  unfold trimL
  rw [List.length_reverse]
  have := (List.dropWhile_sublist (· == 0) (l := l.reverse)).length_le
  simpa using this
theorem fa_trim (l : List UInt8) (i : Nat) : fa (trimL l) i = fa l i := by
  have key : ∀ n, n ≤ l.length → fa (trimL (l.take n)) i = fa (l.take n) i := fun n => by
    induction n with
    | zero => intro _; rw [List.take_zero]; rfl
    | succ n ih =>
      intro hn
      obtain ⟨c, hc⟩ : ∃ c, l[n]? = some c := ⟨_, List.getElem?_eq_getElem (by omega)⟩
      by_cases h0 : c = 0
      · rw [(trim_take hc).1 h0, ih (by omega), List.take_add_one, hc, h0]
        unfold fa
        rw [List.getD_eq_getElem?_getD, List.getD_eq_getElem?_getD, Option.toList_some]
        rcases Nat.lt_or_ge i (l.take n).length with h | h
        · rw [List.getElem?_append_left h]
        · rw [List.getElem?_append_right h, List.getElem?_eq_none h]
          cases hi : i - (l.take n).length with
          | zero => rfl
          | succ q => simp
      · rw [(trim_take hc).2 h0]
  have := key l.length (Nat.le_refl _)
  rwa [List.take_length] at this
/-- the product -/
def mulL (a b : List UInt8) : List UInt8 := (List.range (a.length + b.length)).map (cv (fa a) (fa b))
/-- its coefficients behind i rows and k of the next one -/
def mulK (a b : List UInt8) (i k n : Nat) : UInt8 := sm (fun j => if j ≤ n ∧ n < j + b.length then gm (fa a j) (fa b (n - j)) else 0) i ^^^ (if i ≤ n ∧ n < i + k then gm (fa a i) (fa b (n - i)) else 0)
theorem mulK_zero (a b : List UInt8) (n : Nat) : mulK a b 0 0 n = 0 := by
  unfold mulK
  rw [if_neg (by omega), x0]
  rfl
theorem mulK_row (a b : List UInt8) (i n : Nat) : mulK a b i b.length n = mulK a b (i + 1) 0 n := by
  unfold mulK
  rw [if_neg (show ¬ (i + 1 ≤ n ∧ n < i + 1 + 0) by omega), x0, sm]
theorem mulK_step (a b : List UInt8) (i k n : Nat) : (if n = i + k then mulK a b i k (i + k) ^^^ gm (fa a i) (fa b k) else mulK a b i k n) = mulK a b i (k + 1) n := by
  unfold mulK
  by_cases h : n = i + k
  · rw [if_pos h, h, if_neg (show ¬ (i ≤ i + k ∧ i + k < i + k) by omega), if_pos (show i ≤ i + k ∧ i + k < i + (k + 1) by omega), x0, Nat.add_sub_cancel_left]
  · rw [if_neg h]
    congr 1
    by_cases h2 : i ≤ n ∧ n < i + k
    · rw [if_pos h2, if_pos (by omega)]
    · rw [if_neg h2, if_neg (by omega)]
theorem mulK_end (a b : List UInt8) (n : Nat) : mulK a b a.length 0 n = cv (fa a) (fa b) n := by
  unfold mulK cv
  rw [if_neg (show ¬ (a.length ≤ n ∧ n < a.length + 0) by omega), x0]
  have h1 : ∀ m, a.length ≤ m → sm (fun j => if j ≤ n ∧ n < j + b.length then gm (fa a j) (fa b (n - j)) else 0) m = sm (fun j => if j ≤ n ∧ n < j + b.length then gm (fa a j) (fa b (n - j)) else 0) a.length := fun m hm =>
    sm_more hm (fun i h1 _ => by rw [fa_out h1, zero_gm]; split <;> rfl)
  have h2 : ∀ m, n + 1 ≤ m → sm (fun j => if j ≤ n ∧ n < j + b.length then gm (fa a j) (fa b (n - j)) else 0) m = sm (fun k => gm (fa a k) (fa b (n - k))) (n + 1) := fun m hm => by
    rw [sm_more hm (fun i h1 _ => if_neg (by omega))]
    refine sm_congr (fun k hk => ?_)
    by_cases h : n < k + b.length
    · rw [if_pos ⟨by omega, h⟩]
    · rw [if_neg (fun e => h e.2), fa_out (l := b) (by omega), gm_zero]
  rw [← h1 (max a.length (n + 1)) (Nat.le_max_left _ _), h2 _ (Nat.le_max_right _ _)]
theorem mulL_len (a b : List UInt8) : (mulL a b).length = a.length + b.length := by simp [mulL]
theorem fa_mul (a b : List UInt8) (n : Nat) (h : n < a.length + b.length) : fa (mulL a b) n = cv (fa a) (fa b) n := fa_in (by simp [mulL, h])
theorem trim_last (l : List UInt8) : trimL l = [] ∨ fa (trimL l) ((trimL l).length - 1) ≠ 0 := by
  have key : ∀ n, n ≤ l.length → trimL (l.take n) = [] ∨ fa (trimL (l.take n)) ((trimL (l.take n)).length - 1) ≠ 0 := fun n => by
    induction n with
    | zero => intro _; exact Or.inl (by rw [List.take_zero]; rfl)
    | succ n ih =>
      intro hn
      obtain ⟨c, hc⟩ : ∃ c, l[n]? = some c := ⟨_, List.getElem?_eq_getElem (by omega)⟩
      by_cases h0 : c = 0
      · rw [(trim_take hc).1 h0]
        exact ih (by omega)
      · rw [(trim_take hc).2 h0]
        refine Or.inr ?_
        rw [fa_in (b := c) (by rw [List.length_take, Nat.min_eq_left (by omega), Nat.add_sub_cancel, List.getElem?_take_of_lt (by omega)]; exact hc)]
        exact h0
  have := key l.length (Nat.le_refl _)
  rwa [List.take_length] at this
theorem trim_deg {l : List UInt8} {m : Nat} (h : ∀ i, m < i → fa l i = 0) (hm : fa l m ≠ 0) : (trimL l).length = m + 1 := by
  have h1 : m < (trimL l).length := by
    rcases Nat.lt_or_ge m (trimL l).length with h | h
    · exact h
    · exact absurd (by rw [← fa_trim]; exact fa_out h) hm
  rcases trim_last l with h2 | h2
  · rw [h2] at h1; cases h1
  · rw [fa_trim] at h2
    rcases Nat.lt_or_ge m ((trimL l).length - 1) with h3 | h3
    · exact absurd (h _ h3) h2
    · omega
theorem trim_zeros {l : List UInt8} (h : ∀ i, fa l i = 0) : trimL l = [] := by
  rcases trim_last l with h2 | h2
  · exact h2
  · rw [fa_trim] at h2; exact absurd (h _) h2
theorem cv_two (r s : UInt8) (g : Nat → UInt8) (n : Nat) : cv (fa [r, s]) g n = gm r (g n) ^^^ gm s (up g n) := by
  unfold cv
  cases n with
  | zero => rw [sm, sm, zx]; simp [fa, up]
  | succ n =>
    have h : sm (fun k => gm (fa [r, s] k) (g (n + 1 - k))) (n + 1 + 1) = sm (fun k => gm (fa [r, s] k) (g (n + 1 - k))) 2 := sm_more (by omega) (fun i h1 _ => by rw [fa_out (by simpa using h1), zero_gm])
    rw [h, sm, sm, sm, zx]
    rfl
theorem cv_up (p : List UInt8) (r : UInt8) (n : Nat) : cv (fa p) (fa [r, 1]) n = mulr r (fa p) n := by
  rw [cv_comm, cv_two, one_gm]; rfl
theorem fa_mulL (a b : List UInt8) (n : Nat) : fa (mulL a b) n = cv (fa a) (fa b) n := by
  rcases Nat.lt_or_ge n (a.length + b.length) with h | h
  · exact fa_mul a b n h
  · rw [fa_out (by rw [mulL_len]; exact h)]
    refine (sm_zero (fun i hi => ?_)).symm
    rcases Nat.lt_or_ge i a.length with h1 | h1
    · rw [fa_out (l := b) (by omega), gm_zero]
    · rw [fa_out h1, zero_gm]
/-- the polynomial that is 0 at some places -/
def rootsL (l : List UInt8) : List UInt8 := l.foldl (fun p r => trimL (mulL p [r, 1])) [1]
theorem roots_snoc (l : List UInt8) (r : UInt8) : rootsL (l ++ [r]) = trimL (mulL (rootsL l) [r, 1]) := by unfold rootsL; rw [List.foldl_append]; rfl
theorem roots_len (l : List UInt8) : (rootsL l).length ≤ 1 + 2 * l.length := by
  have key : ∀ n, n ≤ l.length → (rootsL (l.take n)).length ≤ 1 + 2 * n := fun n => by
    induction n with
    | zero => intro _; exact Nat.le_refl _
    | succ n ih =>
      intro hn
      obtain ⟨c, hc⟩ : ∃ c, l[n]? = some c := ⟨_, List.getElem?_eq_getElem (by omega)⟩
      rw [List.take_add_one, hc, Option.toList_some, roots_snoc]
      have h1 := trim_len (mulL (rootsL (l.take n)) [c, 1])
      rw [mulL_len] at h1
      have h2 := ih (by omega)
      simp only [List.length_cons, List.length_nil] at h1
      omega
  have := key l.length (Nat.le_refl _)
  rwa [List.take_length] at this
def genL : List UInt8 := rootsL ((List.range 64).map ex)
theorem gen_roots : ∀ k : Nat, (∀ n, fa (rootsL ((List.range k).map ex)) n = gen k n) ∧ (rootsL ((List.range k).map ex)).length = k + 1
  | 0 => by
    refine ⟨fun n => ?_, rfl⟩
    show fa [1] n = one n
    unfold one
    cases n with
    | zero => rfl
    | succ n => rw [if_neg (by omega)]; exact fa_out (by simp)
  | k + 1 => by
    obtain ⟨h1, h2⟩ := gen_roots k
    rw [List.range_succ, List.map_append, List.map_singleton, roots_snoc]
    have h3 : ∀ n, fa (mulL (rootsL ((List.range k).map ex)) [ex k, 1]) n = gen (k + 1) n := fun n => by
      rw [fa_mulL, cv_up, gen]
      unfold mulr up
      rw [h1]
      by_cases h : n = 0
      · rw [if_pos h, if_pos h]
      · rw [if_neg h, if_neg h, h1]
    refine ⟨fun n => by rw [fa_trim, h3], trim_deg (fun i hi => by rw [h3]; exact gen_deg _ _ hi) (by rw [h3, gen_top]; decide)⟩
set_option maxRecDepth 100000
def strN (v : Value) : Nat := match v with | .string t => t.size | _ => 0
theorem rbyte_any (s : ByteArray) (w : World) (hs : s.size ≤ 1099511627776) : Calls Tryz.prog 91 #[.string s, .int .u8 0] w fun e w' => e = .returned (.string (str (trimL (bl s)))) ∧ w = w' := by
  go_enter Tryz.func91, Tryz.ntmps91
  go_wp2_with fail
  go_loop [0] (fun sv => ∃ t : ByteArray, sv = .string t ∧ t.size ≤ 1099511627776 ∧ Hid (trimL (bl t) = trimL (bl s))) (fun sv => strN sv)
  case atStart => exact ⟨s, rfl, hs, Lib.hid rfl⟩
  case round =>
    obtain ⟨t, rfl, hts, HK⟩ := hrel
    by_cases h0 : 0 < t.size
    · have t0 : decide ((0 : Int) < (t.size : Int)) = true := decide_eq_true (by omega)
      have t1 : decide (0 < t.size) = true := decide_eq_true h0
      obtain ⟨c, hc, hat⟩ := byte_at t (t.size - 1) (by omega)
      have ix : ∀ V : World, (Instr.index 9 (.string t) (.int .i64 ((t.size : Int) - 1))).run Tryz.prog V = .ok (.int .u8 (c.toNat : Int)) V := fun V => by
        rw [show (t.size : Int) - 1 = ((t.size - 1 : Nat) : Int) by omega, idx_at t (t.size - 1) (by omega) V, hat]
      have HT := Lib.hid (trim_take hc)
      have HL := Lib.hid (show (bl t).take (t.size - 1 + 1) = bl t by rw [show t.size - 1 + 1 = t.size by omega, ← bl_len, List.take_length])
      have HE := Lib.hid (show bl (t.extract 0 (t.size - 1)) = (bl t).take (t.size - 1) by rw [ext_bl]; simp)
      have HS := Lib.hid (show (t.extract 0 (t.size - 1)).size = t.size - 1 by rw [ByteArray.size_extract]; omega)
      by_cases hz : c = 0
      · have t2 : ((c.toNat : Int) == 0) = true := by rw [hz]; rfl
        clear hc hat
        go_wp2_with fail
        go_round
        case rel => exact ⟨_, rfl, by rw [HS.out]; omega, Lib.hid (by rw [HE.out, ← HT.out.1 hz, HL.out, HK.out])⟩
        case measure => simp [strN, HS.out]; omega
      · have t2 : ((c.toNat : Int) == 0) = false := beq_eq_false_iff_ne.2 (fun e => hz (UInt8.toNat_inj.1 (by simpa using e)))
        clear hc hat
        go_wp2_with fail
        go_ret
        refine ⟨?_, rfl⟩
        rw [← HK.out, ← HL.out, HT.out.2 hz, HL.out, str_bl]
        rfl
    · have t0 : decide ((0 : Int) < (t.size : Int)) = false := decide_eq_false (by omega)
      have t1 : decide (0 < t.size) = false := decide_eq_false h0
      go_wp2_with fail
      go_ret
      refine ⟨?_, rfl⟩
      have hn : t = nob := bl_inj (List.eq_nil_of_length_eq_zero (by rw [bl_len]; omega))
      rw [← HK.out, hn]
      rfl
theorem right_any (s : ByteArray) (w : World) (hs : s.size ≤ 1099511627776) : Calls Tryz.prog 82 #[.string s, .string ⟨#[0]⟩] w fun e w' => e = .returned (.string (str (trimL (bl s)))) ∧ w = w' := by
  have k := rbyte_any s w hs
  have ix : ∀ V : World, (Instr.index 9 (.string ⟨#[0]⟩) (.int .i64 0)).run Tryz.prog V = .ok (.int .u8 0) V := fun V => by kernel_rfl
  by_cases h0 : s.size = 0
  · have hn : s = nob := bl_inj (List.eq_nil_of_length_eq_zero (by rw [bl_len]; exact h0))
    subst hn
    clear k ix
    go_enter Tryz.func82, Tryz.ntmps82
    go_wp2_with fail
    go_ret
    exact ⟨rfl, rfl⟩
  · have t0 : s.toList.isEmpty = false := by rw [isEmpty_iff]; simpa using h0
    go_enter Tryz.func82, Tryz.ntmps82
    go_wp2_with fail
    (with_reducible refine (k).mono ?_); rintro e W1 ⟨rfl, rfl⟩
    go_wp2_with fail
    go_ret
    exact ⟨rfl, rfl⟩
theorem trim_any (s : ByteArray) (w : World) (hs : s.size ≤ 1099511627776) : Calls Tryz.prog 72 #[.string s] w fun e w' => e = .returned (.string (str (trimL (bl s)))) ∧ w = w' := by
  have k := right_any s w hs
  go_enter Tryz.func72, Tryz.ntmps72
  go_wp2_with fail
  (with_reducible refine (k).mono ?_); rintro e W1 ⟨rfl, rfl⟩
  go_wp2_with fail
  go_ret
  exact ⟨rfl, rfl⟩
theorem degree_any (s : ByteArray) (w : World) (hs : s.size ≤ 1099511627776) : Calls Tryz.prog 76 #[.string s] w fun e w' => e = .returned (.int .i64 (((trimL (bl s)).length : Int) - 1)) ∧ w = w' := by
  have k := trim_any s w hs
  have hl : (str (trimL (bl s))).size = (trimL (bl s)).length := str_size _
  have hle := trim_len (bl s)
  rw [bl_len] at hle
  obtain ⟨t, ht⟩ : ∃ t, str (trimL (bl s)) = t := ⟨_, rfl⟩
  rw [ht] at k hl
  have q : (t.size : Int) ≤ 1099511627776 := by omega
  have HL := Lib.hid hl
  clear ht hl hle
  go_enter Tryz.func76, Tryz.ntmps76
  go_wp2_with fail
  (with_reducible refine (k).mono ?_); rintro e W1 ⟨rfl, rfl⟩
  go_wp2_with fail
  go_ret
  exact ⟨by rw [← HL.out]; rfl, rfl⟩
theorem xor_g (a b : UInt8) : bits .xor .u8 (a.toNat : Int) (b.toNat : Int) = (((a ^^^ b).toNat : Nat) : Int) := by rw [xor_u8, UInt8.toNat_xor]
theorem ix_of {s : ByteArray} {i : Nat} {c : UInt8} (h : (bl s)[i]? = some c) (V : World) : (Instr.index 9 (.string s) (.int .i64 (i : Int))).run Tryz.prog V = .ok (.int .u8 (c.toNat : Int)) V := by
  have hi : i < s.size := by rw [← bl_len]; exact (List.getElem?_eq_some_iff.1 h).1
  rw [idx_at s i hi V, at_of h]
theorem conv_fm {w : World} {g n : Nat} {t : TypeId} {F : Nat → UInt8} (h : Fm w g t n (fun i => u8v (F i))) (c : Nat) : (convert 87 9 (.slice (some ⟨g, 0, none⟩) n c)).run Tryz.prog w = .ok (.string (str ((List.range n).map F))) w := by
  have := run_convert_bytes_arg (P := Tryz.prog) w 87 5 Tryz.underlying87 Tryz.underlying5 g 0 n c ((List.range n).map fun i => ((F i).toNat : Int)) (by simp) (fun i hi => by
    rw [Nat.zero_add, h.cell i hi]
    simp [u8v, hi]) 9 Tryz.underlying9
  rw [this, nums_str]
  congr 3
  simp
theorem fm_zero (w : World) (n g : Nat) (hg : g = w.heap.size) : Fm (w.alloc (.cells (rowB [] n) 5)) g 5 n (fun _ => u8v 0) := by
  refine ⟨rowB [] n, Blk.newAt w _ _ hg, by simp [rowB, u8s], fun i hi => ?_⟩
  simp [rowB, u8s, hi]
  rfl
set_option maxHeartbeats 3200000 in
theorem mul_any (a b : ByteArray) (w : World) (ha : a.size ≤ 1000) (hb : b.size ≤ 1000) : Calls Tryz.prog 83 #[.string a, .string b] w fun e w' => e = .returned (.string (str (trimL (mulL (bl a) (bl b))))) ∧ Below w.heap.size w w' := by
  have kn := new_any w
  have hmk := mk_bytes (a.size + b.size) (by omega)
  rw [show ((a.size + b.size : Nat) : Int) = (a.size : Int) + (b.size : Int) by omega] at hmk
  have s0 : (0 : Int) ≤ (a.size : Int) := Int.natCast_nonneg _
  have s1 : (0 : Int) ≤ (b.size : Int) := Int.natCast_nonneg _
  have s2 : (a.size : Int) ≤ 1000 := by omega
  have s3 : (b.size : Int) ≤ 1000 := by omega
  go_enter Tryz.func83, Tryz.ntmps83
  go_wp2_with fail
  (with_reducible refine (kn).mono ?_); rintro e1 W1 ⟨rfl, hF1, hb1⟩
  obtain ⟨g, hg⟩ : ∃ g, w.heap.size = g := ⟨_, rfl⟩
  rw [hg] at hF1 hb1 ⊢
  obtain ⟨g2, hg2⟩ : ∃ g2, W1.heap.size = g2 := ⟨_, rfl⟩
  have hlt := Fm.lt hF1
  rw [hg2] at hlt
  have hF2 : Fld (W1.alloc (.cells (rowB [] (a.size + b.size)) 5)) g := Fm.alloc hF1 (.cells (rowB [] (a.size + b.size)) 5)
  have hO2 := (fm_zero W1 (a.size + b.size) g2 hg2.symm).congr (f' := fun n => u8v (mulK (bl a) (bl b) 0 0 n)) (fun i _ => by rw [mulK_zero])
  have hb2 := hb1.alloc (by omega) (.cells (rowB [] (a.size + b.size)) 5)
  have hm2 := hmk W1
  rw [hg2] at hm2
  clear kn hF1 hmk hb1
  go_wp2_with fail
  go_loopw [18] (fun iv W => ∃ i : Nat, i ≤ a.size ∧ iv = .int .i64 i ∧ Fld W g ∧ Fm W g2 5 (a.size + b.size) (fun n => u8v (mulK (bl a) (bl b) i 0 n)) ∧ Below g w W) (fun iv _ => a.size - (intOf iv).toNat)
  case atStart => exact ⟨0, by omega, rfl, hF2, hO2, hb2⟩
  case round =>
    obtain ⟨i, hi, rfl, hF, hO, hbe⟩ := hrel
    have i0 : (0 : Int) ≤ (i : Int) := Int.natCast_nonneg _
    by_cases hin : i < a.size
    · have t0 : decide ((i : Int) < (a.size : Int)) = true := decide_eq_true (by omega)
      have t0' : decide (i < a.size) = true := decide_eq_true hin
      obtain ⟨x, hx⟩ : ∃ x, (bl a)[i]? = some x := ⟨_, List.getElem?_eq_getElem (by rw [bl_len]; exact hin)⟩
      have ia := ix_of hx
      have HX := Lib.hid (fa_in hx)
      clear hx hF2 hO2 hb2 hm2
      go_wp2_with fail
      go_loopw [23] (fun kv W => ∃ k : Nat, k ≤ b.size ∧ kv = .int .i64 k ∧ Fld W g ∧ Fm W g2 5 (a.size + b.size) (fun n => u8v (mulK (bl a) (bl b) i k n)) ∧ Below g w W) (fun kv _ => b.size - (intOf kv).toNat)
      case atStart => exact ⟨0, by omega, rfl, hF, hO, hbe⟩
      case round =>
        clear hF hO hbe
        obtain ⟨k, hk, rfl, hF, hO, hbe⟩ := hrel
        have k0 : (0 : Int) ≤ (k : Int) := Int.natCast_nonneg _
        by_cases hkn : k < b.size
        · have t1 : decide ((k : Int) < (b.size : Int)) = true := decide_eq_true (by omega)
          have t1' : decide (k < b.size) = true := decide_eq_true hkn
          obtain ⟨y, hy⟩ : ∃ y, (bl b)[k]? = some y := ⟨_, List.getElem?_eq_getElem (by rw [bl_len]; exact hkn)⟩
          have ib := ix_of hy
          have c0 := fun p => (Fm.ext hO p).cell (i + k) (by omega)
          have c1 := fun p => (Fm.ext hO p).frozen (i + k)
          obtain ⟨m, hm⟩ : ∃ m, mulK (bl a) (bl b) i k (i + k) = m := ⟨_, rfl⟩
          rw [hm, u8v] at c0
          have qx := xor_g m (gm x y)
          have HM := Lib.hid (mulK_step (bl a) (bl b) i k)
          rw [HX.out, fa_in hy, hm] at HM
          have j1 : (i : Int) + (k : Int) < (a.size : Int) + (b.size : Int) := by omega
          clear hm hy
          go_wp2_with fail
          refine Go.Proofs.YtlocgilgdnhnlaaGreatDoor.Rg.region_new [(13, val (.int .u8 ((gm x y).toNat : Int)))] 16 (by kernel_rfl) (by kernel_rfl) (by kernel_rfl) (lk_cons val_inh lk_nil) (lk_cons val_mono lk_nil) ?_
          intro σ hσ
          simp only [List.take_succ_cons, List.take_zero, List.drop_succ_cons, List.drop_zero]
          have hs13 : σ 13 = .int .u8 ((gm x y).toNat : Int) := hσ 13 _ rfl
          refine Go.Proofs.YtlocgilgdnhnlaaGreatDoor.Rg.wpN_take 13 (by kernel_rfl) (by kernel_rfl) (by kernel_rfl) ?_
          simp only [List.take_succ_cons, List.take_zero, List.drop_succ_cons, List.drop_zero]
          repeat (go_big_quiet_step (fail))
          refine wpQuiet_nil ?_
          refine wpN_sp _ rfl (by kernel_rfl) (spAt_val (f := 66) (args := #[.pointer (some ⟨g, 0, none⟩), .int .u8 (x.toNat : Int), .int .u8 (y.toNat : Int)]) (by intro w0; go_simp) (fun p _ => GfA.mul_any _ g x y (Fm.ext hF p))) ?_
          simp only [Act.put, List.setIfInBounds_toArray, List.set_cons_zero, List.set_cons_succ]
          rw [hs13]
          refine Go.Proofs.YtlocgilgdnhnlaaGreatDoor.Rg.wpN_take 2 (by kernel_rfl) (by kernel_rfl) (by kernel_rfl) ?_
          simp only [List.take_succ_cons, List.take_zero, List.drop_succ_cons, List.drop_zero]
          repeat (go_big_quiet_step (fail))
          refine wpQuiet_nil ?_
          refine wpN_nil ?_
          rintro w9 ⟨pq, rfl⟩ _
          have d0 := c0 pq
          have d1 := c1 pq
          have hF9 : Fld ((ext wr pq).setCell ⟨g2, i + k, none⟩ (.int .u8 ((m ^^^ gm x y).toNat : Int))) g := Fm.far (Fm.ext hF pq) (by show g ≠ g2; omega) _
          have hO9 := ((Fm.ext hO pq).put (i + k) (.int .u8 ((m ^^^ gm x y).toNat : Int))).congr (f' := fun n => u8v (mulK (bl a) (bl b) i (k + 1) n)) (fun n _ => by
            rw [← HM.out]
            split <;> rfl)
          have hb9 : Below g w ((ext wr pq).setCell ⟨g2, i + k, none⟩ (.int .u8 ((m ^^^ gm x y).toNat : Int))) := (hbe.trans ((below_ext wr pq).mono (by have := hF.lt; omega))).setCell (by show g ≤ g2; omega) _
          have H9 := Lib.hid (And.intro hF9 (And.intro hO9 hb9))
          clear hF hO hbe hF9 hO9 hb9 c0 c1 hσ hs13
          go_wp2_with fail
          go_roundw
          case rel => exact ⟨k + 1, by omega, by go_num, H9.out.1, H9.out.2.1, H9.out.2.2⟩
          case measure => simp [intOf]; omega
        · obtain rfl : k = b.size := by omega
          have t1 : decide ((b.size : Int) < (b.size : Int)) = false := decide_eq_false (by omega)
          have t1' : decide (b.size < b.size) = false := decide_eq_false (by omega)
          go_wp2_with fail
          go_roundw
          case rel => exact ⟨i + 1, by omega, by go_num, hF, hO.congr (fun n _ => by rw [← mulK_row, bl_len]), hbe⟩
          case measure => simp [intOf]; omega
    · obtain rfl : i = a.size := by omega
      have t0 : decide ((a.size : Int) < (a.size : Int)) = false := decide_eq_false (by omega)
      have t0' : decide (a.size < a.size) = false := decide_eq_false (by omega)
      have kc := conv_fm hO (a.size + b.size)
      have kt := fun V => trim_any (str ((List.range (a.size + b.size)).map (mulK (bl a) (bl b) a.size 0))) V (by rw [str_size]; simp; omega)
      rw [bl_str] at kt
      rw [show (List.range (a.size + b.size)).map (mulK (bl a) (bl b) a.size 0) = mulL (bl a) (bl b) from by
        unfold mulL
        rw [bl_len, bl_len]
        exact List.map_congr_left (fun n _ => mulK_end (bl a) (bl b) n)] at kt kc
      go_wp2_with fail
      (with_reducible refine (kt _).mono ?_); rintro e2 W2 ⟨rfl, rfl⟩
      go_wp2_with fail
      go_ret
      exact ⟨rfl, by rw [hg]; exact hbe⟩
theorem conv_two (V : World) (x : UInt8) (g : Nat) (hg : g = V.heap.size) : (convert 87 9 (.slice (some ⟨g, 0, none⟩) 2 2)).run Tryz.prog (V.alloc (.cells #[.int .u8 (x.toNat : Int), .int .u8 1] 5)) = .ok (.string (str [x, 1])) (V.alloc (.cells #[.int .u8 (x.toNat : Int), .int .u8 1] 5)) := by
  have := conv_new V [(x.toNat : Int), 1] 2 g #[.int .u8 (x.toNat : Int), .int .u8 1] rfl rfl hg
  rw [this, nums_str]
  congr 3
  simp
set_option maxHeartbeats 3200000 in
theorem roots_any (l : ByteArray) (w : World) (hl : l.size ≤ 400) : Calls Tryz.prog 79 #[.string l] w fun e w' => e = .returned (.string (str (rootsL (bl l)))) ∧ Below w.heap.size w w' := by
  have s0 : (0 : Int) ≤ (l.size : Int) := Int.natCast_nonneg _
  have s1 : (l.size : Int) ≤ 400 := by omega
  go_enter Tryz.func79, Tryz.ntmps79
  go_wp2_with fail
  go_loopw [3, 7] (fun pv iv W => ∃ i : Nat, i ≤ l.size ∧ iv = .int .i64 i ∧ pv = .string (str (rootsL ((bl l).take i))) ∧ Below w.heap.size w W) (fun _ iv _ => l.size - (intOf iv).toNat)
  case atStart => exact ⟨0, by omega, rfl, rfl, Below.refl _ _⟩
  case round =>
    obtain ⟨i, hi, rfl, rfl, hb⟩ := hrel
    have i0 : (0 : Int) ≤ (i : Int) := Int.natCast_nonneg _
    by_cases hin : i < l.size
    · have t0 : decide ((i : Int) < (l.size : Int)) = true := decide_eq_true (by omega)
      have t0' : decide (i < l.size) = true := decide_eq_true hin
      obtain ⟨x, hx⟩ : ∃ x, (bl l)[i]? = some x := ⟨_, List.getElem?_eq_getElem (by rw [bl_len]; exact hin)⟩
      have ia := ix_of hx
      have HR := Lib.hid (show rootsL ((bl l).take (i + 1)) = trimL (mulL (rootsL ((bl l).take i)) [x, 1]) by rw [List.take_add_one, hx, Option.toList_some, roots_snoc])
      have hrl := roots_len ((bl l).take i)
      rw [List.length_take, bl_len, Nat.min_eq_left (by omega)] at hrl
      have hcv := conv_two wr x wr.heap.size rfl
      have hb2 := hb.alloc hb.size (.cells #[.int .u8 (x.toNat : Int), .int .u8 1] 5)
      have km := fun V => mul_any (str (rootsL ((bl l).take i))) (str [x, 1]) V (by rw [str_size]; omega) (by rw [str_size]; simp)
      rw [bl_str, bl_str, ← HR.out] at km
      clear hx hrl hb
      go_wp2_with fail
      (with_reducible refine (km _).mono ?_); rintro e W1 ⟨rfl, hb1⟩
      have hb3 := hb2.trans (hb1.mono hb2.size)
      go_wp2_with fail
      go_roundw
      case rel => exact ⟨i + 1, by omega, by go_num, rfl, hb3⟩
      case measure => simp [intOf]; omega
    · obtain rfl : i = l.size := by omega
      have t0 : decide ((l.size : Int) < (l.size : Int)) = false := decide_eq_false (by omega)
      have t0' : decide (l.size < l.size) = false := decide_eq_false (by omega)
      rw [show (bl l).take l.size = bl l by rw [← bl_len, List.take_length]]
      go_wp2_with fail
      go_ret
      exact ⟨rfl, hb⟩
end Go.Proofs.YtlocgilgdnhnlaaGreatDoor.PoA
