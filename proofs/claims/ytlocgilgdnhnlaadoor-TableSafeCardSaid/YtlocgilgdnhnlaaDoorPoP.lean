/- Polynomials over the field, plain: sums, values, the locator of what is lost, its slope, and what is wrong there. -/
import Derived.Test.YtlocgilgdnhnlaaDoorGfP
namespace Go.Proofs.YtlocgilgdnhnlaaDoor.PoP
open Go.Proofs.YtlocgilgdnhnlaaDoor.GfP
/-- the sum of the first n -/
def sm (f : Nat → UInt8) : Nat → UInt8
  | 0 => 0
  | n + 1 => sm f n ^^^ f n
theorem xac (a b c d : UInt8) : (a ^^^ b) ^^^ (c ^^^ d) = (a ^^^ c) ^^^ (b ^^^ d) := by ac_rfl
theorem zx (a : UInt8) : 0 ^^^ a = a := UInt8.zero_xor
theorem xxa (a b : UInt8) : a ^^^ (a ^^^ b) = b := by rw [← UInt8.xor_assoc, xx, zx]
theorem xax (a b : UInt8) : (b ^^^ a) ^^^ a = b := by rw [UInt8.xor_assoc, xx, x0]
theorem x_zero {a b : UInt8} (h : a ^^^ b = 0) : a = b := by rw [← xax b a, h, zx]
theorem sm_congr {f g : Nat → UInt8} : ∀ {n : Nat}, (∀ i, i < n → f i = g i) → sm f n = sm g n
  | 0, _ => rfl
  | n + 1, h => by rw [sm, sm, sm_congr (n := n) (fun i hi => h i (by omega)), h n (by omega)]
theorem sm_xor (f g : Nat → UInt8) : ∀ n : Nat, sm (fun i => f i ^^^ g i) n = sm f n ^^^ sm g n
  | 0 => (x0 0).symm
  | n + 1 => by rw [sm, sm, sm, sm_xor f g n, xac]
theorem sm_gm (c : UInt8) (f : Nat → UInt8) : ∀ n : Nat, sm (fun i => gm c (f i)) n = gm c (sm f n)
  | 0 => (gm_zero c).symm
  | n + 1 => by rw [sm, sm, sm_gm c f n, gm_xor]
theorem sm_zero {f : Nat → UInt8} : ∀ {n : Nat}, (∀ i, i < n → f i = 0) → sm f n = 0
  | 0, _ => rfl
  | n + 1, h => by rw [sm, sm_zero (n := n) (fun i hi => h i (by omega)), h n (by omega)]; rfl
theorem sm_more {f : Nat → UInt8} {n m : Nat} (hnm : n ≤ m) (h : ∀ i, n ≤ i → i < m → f i = 0) : sm f m = sm f n := by
  induction m with
  | zero => obtain rfl : n = 0 := by omega
            rfl
  | succ m ih =>
    rcases Nat.lt_or_ge n (m + 1) with h1 | h1
    · rw [sm, h m (by omega) (by omega), x0, ih (by omega) (fun i h2 h3 => h i h2 (by omega))]
    · obtain rfl : n = m + 1 := by omega
      rfl
theorem sm_shift (f : Nat → UInt8) : ∀ n : Nat, sm f (n + 1) = f 0 ^^^ sm (fun i => f (i + 1)) n
  | 0 => by rw [sm, sm, sm, zx, x0]
  | n + 1 => by rw [sm, sm_shift f n, sm, UInt8.xor_assoc]
theorem sm_one {f : Nat → UInt8} {n k : Nat} (hk : k < n) (h : ∀ i, i < n → i ≠ k → f i = 0) : sm f n = f k := by
  induction n with
  | zero => omega
  | succ n ih =>
    rw [sm]
    by_cases e : k = n
    · subst e
      rw [sm_zero (fun i hi => h i (by omega) (by omega)), zx]
    · rw [h n (by omega) (fun h2 => e h2.symm), x0, ih (by omega) (fun i hi => h i (by omega))]
theorem sm_rev (f : Nat → UInt8) : ∀ n : Nat, sm (fun i => f (n - 1 - i)) n = sm f n
  | 0 => rfl
  | n + 1 => by
    rw [sm_shift, sm, ← sm_rev f n, UInt8.xor_comm]
    congr 1
    exact sm_congr (fun i hi => by congr 1; omega)
theorem sm_swap (f : Nat → Nat → UInt8) (m : Nat) : ∀ n : Nat, sm (fun i => sm (f i) m) n = sm (fun k => sm (fun i => f i k) n) m
  | 0 => (sm_zero (fun _ _ => rfl)).symm
  | n + 1 => by
    rw [sm, sm_swap f m n, ← sm_xor]
    rfl
/-- powers -/
def pw (x : UInt8) : Nat → UInt8
  | 0 => 1
  | n + 1 => gm x (pw x n)
theorem pw_add (x : UInt8) (n : Nat) : ∀ m : Nat, pw x (m + n) = gm (pw x m) (pw x n)
  | 0 => by rw [Nat.zero_add, pw, one_gm]
  | m + 1 => by rw [show m + 1 + n = (m + n) + 1 by omega, pw, pw_add x n m, pw, gm_assoc]
theorem pw_ex (i : Nat) : ∀ n : Nat, pw (ex i) n = ex (i * n)
  | 0 => rfl
  | n + 1 => by rw [pw, pw_ex i n, gm_ex, Nat.mul_succ, Nat.add_comm]
theorem pw_flip (i j : Nat) : pw (ex i) j = pw (ex j) i := by rw [pw_ex, pw_ex, Nat.mul_comm]
/-- the value at x of the first n coefficients -/
def ev (f : Nat → UInt8) (n : Nat) (x : UInt8) : UInt8 := sm (fun i => gm (f i) (pw x i)) n
theorem ev_congr {f g : Nat → UInt8} {n : Nat} (x : UInt8) (h : ∀ i, i < n → f i = g i) : ev f n x = ev g n x := sm_congr (fun i hi => by rw [h i hi])
theorem ev_more {f : Nat → UInt8} {n m : Nat} (x : UInt8) (hnm : n ≤ m) (h : ∀ i, n ≤ i → i < m → f i = 0) : ev f m x = ev f n x := sm_more hnm (fun i h1 h2 => by rw [h i h1 h2, zero_gm])
theorem ev_xor (f g : Nat → UInt8) (n : Nat) (x : UInt8) : ev (fun i => f i ^^^ g i) n x = ev f n x ^^^ ev g n x := by
  unfold ev
  rw [← sm_xor]
  exact sm_congr (fun i _ => xor_gm _ _ _)
theorem ev_gm (c : UInt8) (f : Nat → UInt8) (n : Nat) (x : UInt8) : ev (fun i => gm c (f i)) n x = gm c (ev f n x) := by
  unfold ev
  rw [← sm_gm]
  exact sm_congr (fun i _ => gm_assoc _ _ _)
/-- a place higher -/
def up (f : Nat → UInt8) (n : Nat) : UInt8 := if n = 0 then 0 else f (n - 1)
theorem ev_up (f : Nat → UInt8) (n : Nat) (x : UInt8) : ev (up f) (n + 1) x = gm x (ev f n x) := by
  unfold ev
  rw [sm_shift, show up f 0 = 0 from rfl, zero_gm, zx, ← sm_gm]
  refine sm_congr (fun i _ => ?_)
  rw [show up f (i + 1) = f i from rfl, pw, gm_left_comm]
/-- by 1 + X x -/
def mulx (X : UInt8) (f : Nat → UInt8) (n : Nat) : UInt8 := f n ^^^ gm X (up f n)
theorem ev_mulx (X : UInt8) (f : Nat → UInt8) (d : Nat) (x : UInt8) (h : f d = 0) : ev (mulx X f) (d + 1) x = gm (1 ^^^ gm X x) (ev f d x) := by
  have hm : ev f (d + 1) x = ev f d x := ev_more x (Nat.le_succ d) (fun i h1 h2 => by
    obtain rfl : i = d := by omega
    exact h)
  rw [show mulx X f = fun n => f n ^^^ (fun n => gm X (up f n)) n from rfl, ev_xor, ev_gm, ev_up, xor_gm, one_gm, gm_assoc, hm]
theorem mulx_comm (X Y : UInt8) (f : Nat → UInt8) : mulx X (mulx Y f) = mulx Y (mulx X f) := by
  funext n
  unfold mulx
  cases n with
  | zero => simp only [up, if_true, gm_zero, x0]
  | succ n =>
    have e : ∀ g : Nat → UInt8, up g (n + 1) = g n := fun g => rfl
    rw [e, e, e, gm_xor, gm_xor, gm_left_comm X Y]
    ac_rfl
def one (n : Nat) : UInt8 := if n = 0 then 1 else 0
/-- the locator -/
def lam : List UInt8 → Nat → UInt8
  | [] => one
  | X :: t => mulx X (lam t)
theorem lam_deg : ∀ (l : List UInt8) (n : Nat), l.length < n → lam l n = 0
  | [], n, h => if_neg (by simp at h; omega)
  | X :: t, n, h => by
    simp only [List.length_cons] at h
    rw [lam, mulx, lam_deg t n (by omega), up, if_neg (by omega), lam_deg t (n - 1) (by omega), gm_zero, x0]
theorem lam_top : ∀ (l : List UInt8), (∀ X ∈ l, X ≠ 0) → lam l l.length ≠ 0
  | [], _ => by decide
  | X :: t, h => by
    rw [List.length_cons, lam, mulx, lam_deg t _ (by omega), zx]
    exact gm_ne (h X (by simp)) (lam_top t (fun Y hY => h Y (by simp [hY])))
theorem lam_zero : ∀ (l : List UInt8), lam l 0 = 1
  | [] => rfl
  | X :: t => by rw [lam, mulx, lam_zero t, up, if_pos rfl, gm_zero, x0]
theorem lam_perm {l m : List UInt8} (h : l.Perm m) : lam l = lam m := by
  induction h with
  | nil => rfl
  | cons x _ ih => rw [lam, lam, ih]
  | swap x y t => rw [lam, lam, lam, lam, mulx_comm]
  | trans _ _ h1 h2 => rw [h1, h2]
/-- its value -/
def pr : List UInt8 → UInt8 → UInt8
  | [], _ => 1
  | X :: t, x => gm (1 ^^^ gm X x) (pr t x)
theorem ev_lam : ∀ (l : List UInt8) (x : UInt8), ev (lam l) (l.length + 1) x = pr l x
  | [], x => by
    rw [pr, ev, List.length_nil, sm, sm, zx]
    exact gm_one _
  | X :: t, x => by rw [lam, List.length_cons, ev_mulx X (lam t) (t.length + 1) x (lam_deg t _ (by omega)), ev_lam t x, pr]
theorem pr_zero {l : List UInt8} {X x : UInt8} (hX : X ∈ l) (h : gm X x = 1) : pr l x = 0 := by
  induction l with
  | nil => cases hX
  | cons Y t ih =>
    rw [pr]
    rcases List.mem_cons.1 hX with rfl | hX
    · rw [h, xx, zero_gm]
    · rw [ih hX, gm_zero]
theorem pr_ne {l : List UInt8} {x : UInt8} (h : ∀ X ∈ l, gm X x ≠ 1) : pr l x ≠ 0 := by
  induction l with
  | nil => exact (by decide : (1 : UInt8) ≠ 0)
  | cons Y t ih =>
    rw [pr]
    exact gm_ne (fun e => h Y (by simp) (x_zero e).symm) (ih (fun X hX => h X (by simp [hX])))
/-- the slope -/
def sl (f : Nat → UInt8) (n : Nat) : UInt8 := if n % 2 = 0 then f (n + 1) else 0
theorem sl_mulx (X : UInt8) (f : Nat → UInt8) (n : Nat) : sl (mulx X f) n = mulx X (sl f) n ^^^ gm X (f n) := by
  unfold sl mulx up
  dsimp only
  by_cases h : n % 2 = 0
  · rw [if_pos h, if_pos h, if_neg (by omega), Nat.add_sub_cancel]
    by_cases h0 : n = 0
    · rw [if_pos h0, gm_zero, x0]
    · rw [if_neg h0, if_neg (by omega), gm_zero, x0]
  · rw [if_neg h, if_neg h, if_neg (by omega), if_pos (by omega), Nat.sub_add_cancel (by omega), zx, xx]
theorem sl_deg {f : Nat → UInt8} {d : Nat} (h : ∀ n, d < n → f n = 0) (n : Nat) (hn : d ≤ n) : sl f n = 0 := by
  unfold sl
  split
  · exact h _ (by omega)
  · rfl
theorem ev_sl (X : UInt8) (l : List UInt8) (x : UInt8) (h : gm X x = 1) : ev (sl (lam (X :: l))) (l.length + 1) x = gm X (pr l x) := by
  have e : ∀ n, sl (lam (X :: l)) n = mulx X (sl (lam l)) n ^^^ gm X (lam l n) := fun n => sl_mulx X (lam l) n
  rw [show sl (lam (X :: l)) = fun n => mulx X (sl (lam l)) n ^^^ (fun n => gm X (lam l n)) n from funext e, ev_xor, ev_gm, ev_lam, ev_mulx X _ l.length x (sl_deg (lam_deg l) _ (Nat.le_refl _)), h, xx, zero_gm, zx]
/-- the product's coefficients -/
def cv (f g : Nat → UInt8) (m : Nat) : UInt8 := sm (fun k => gm (f k) (g (m - k))) (m + 1)
theorem cv_comm (f g : Nat → UInt8) (m : Nat) : cv f g m = cv g f m := by
  unfold cv
  rw [← sm_rev]
  refine sm_congr (fun i hi => ?_)
  rw [gm_comm, show m + 1 - 1 - i = m - i by omega, show m - (m - i) = i by omega]
theorem cv_pw (X : UInt8) (f : Nat → UInt8) : ∀ m : Nat, cv (mulx X f) (pw X) m = f m
  | 0 => by
    unfold cv
    rw [sm, sm, zx]
    show gm (mulx X f 0) (pw X 0) = f 0
    rw [mulx, up, if_pos rfl, gm_zero, x0]
    exact gm_one _
  | m + 1 => by
    have ih := cv_pw X f m
    unfold cv at ih ⊢
    have h1 : sm (fun k => gm (mulx X f k) (pw X (m + 1 - k))) (m + 1) = gm X (f m) := by
      rw [← ih, ← sm_gm]
      refine sm_congr (fun k hk => ?_)
      rw [show m + 1 - k = (m - k) + 1 by omega, pw, gm_left_comm]
    rw [sm, h1, Nat.sub_self]
    show gm X (f m) ^^^ gm (mulx X f (m + 1)) (pw X 0) = f (m + 1)
    rw [show gm (mulx X f (m + 1)) (pw X 0) = mulx X f (m + 1) from gm_one _, mulx, up, if_neg (by omega), Nat.add_sub_cancel, UInt8.xor_comm, xax]
/-- the sum over a list -/
def sL {α : Type} (L : List α) (f : α → UInt8) : UInt8 := L.foldr (fun a o => f a ^^^ o) 0
theorem sL_cons {α : Type} (a : α) (L : List α) (f : α → UInt8) : sL (a :: L) f = f a ^^^ sL L f := rfl
theorem sL_congr {α : Type} {L : List α} {f g : α → UInt8} (h : ∀ a ∈ L, f a = g a) : sL L f = sL L g := by
  induction L with
  | nil => rfl
  | cons a t ih => rw [sL_cons, sL_cons, h a (by simp), ih (fun b hb => h b (by simp [hb]))]
theorem sL_zero {α : Type} {L : List α} {f : α → UInt8} (h : ∀ a ∈ L, f a = 0) : sL L f = 0 := by
  induction L with
  | nil => rfl
  | cons a t ih => rw [sL_cons, h a (by simp), ih (fun b hb => h b (by simp [hb])), x0]
theorem sL_gm {α : Type} (c : UInt8) (L : List α) (f : α → UInt8) : sL L (fun a => gm c (f a)) = gm c (sL L f) := by
  induction L with
  | nil => exact (gm_zero c).symm
  | cons a t ih => rw [sL_cons, sL_cons, ih, gm_xor]
theorem sL_sm {α : Type} (L : List α) (f : α → Nat → UInt8) (n : Nat) : sm (fun i => sL L (fun a => f a i)) n = sL L (fun a => sm (f a) n) := by
  induction L with
  | nil => exact sm_zero (fun _ _ => rfl)
  | cons a t ih => rw [show (fun i => sL (a :: t) (fun a => f a i)) = fun i => f a i ^^^ (fun i => sL t (fun a => f a i)) i from rfl, sm_xor, ih]; rfl
theorem sL_one {α : Type} [DecidableEq α] {L : List α} {f : α → UInt8} {a : α} (hn : L.Nodup) (ha : a ∈ L) (h : ∀ b ∈ L, b ≠ a → f b = 0) : sL L f = f a := by
  induction L with
  | nil => cases ha
  | cons b t ih =>
    rw [sL_cons]
    obtain ⟨h1, h2⟩ := List.nodup_cons.1 hn
    rcases List.mem_cons.1 ha with rfl | ha
    · rw [sL_zero (fun c hc => h c (by simp [hc]) (fun e => h1 (e ▸ hc))), x0]
    · rw [h b (by simp) (fun e => h1 (e ▸ ha)), zx, ih h2 ha (fun c hc => h c (by simp [hc]))]
theorem sm_list {L : List Nat} {f : Nat → UInt8} {n : Nat} (hn : L.Nodup) (hl : ∀ i ∈ L, i < n) (hf : ∀ i, i < n → i ∉ L → f i = 0) : sm f n = sL L f := by
  induction L generalizing f with
  | nil => exact sm_zero (fun i hi => hf i hi (by simp))
  | cons a t ih =>
    obtain ⟨h1, h2⟩ := List.nodup_cons.1 hn
    have e : ∀ i, f i = (if i = a then f a else 0) ^^^ (if i = a then 0 else f i) := fun i => by
      by_cases h : i = a
      · rw [if_pos h, if_pos h, x0, h]
      · rw [if_neg h, if_neg h, zx]
    have h3 : sm f n = sm (fun i => (if i = a then f a else 0) ^^^ (if i = a then 0 else f i)) n := sm_congr (fun i _ => e i)
    have h4 : sm (fun i => if i = a then f a else 0) n = f a := (sm_one (k := a) (hl a (by simp)) (fun i _ hi => if_neg hi)).trans (if_pos rfl)
    have h5 : sm (fun i => if i = a then 0 else f i) n = sL t (fun i => if i = a then 0 else f i) := ih h2 (fun i hi => hl i (by simp [hi])) (fun i hi hni => by
      by_cases h : i = a
      · exact if_pos h
      · rw [if_neg h]; exact hf i hi (by simp [h, hni]))
    rw [h3, sm_xor, h4, h5, sL_cons]
    congr 1
    exact sL_congr (fun b hb => if_neg (fun (hba : b = a) => h1 (by rw [← hba]; exact hb)))

section decode
variable {L : List Nat} {X : Nat → UInt8} {e : Nat → UInt8}
/-- the others' -/
def oth (L : List Nat) (X : Nat → UInt8) (n : Nat) : List UInt8 := (L.erase n).map X
theorem oth_len {n : Nat} (h : n ∈ L) : (oth L X n).length + 1 = L.length := by
  have := List.length_pos_of_mem h
  rw [oth, List.length_map, List.length_erase_of_mem h]; omega
theorem lam_oth {n : Nat} (h : n ∈ L) : lam (L.map X) = mulx (X n) (lam (oth L X n)) := by
  rw [lam_perm ((List.perm_cons_erase h).map X)]; rfl
/-- the syndromes of what is wrong at L -/
def syn (L : List Nat) (X e : Nat → UInt8) (j : Nat) : UInt8 := sL L (fun n => gm (e n) (pw (X n) j))
theorem cv_syn (m : Nat) : cv (lam (L.map X)) (syn L X e) m = sL L (fun n => gm (e n) (lam (oth L X n) m)) := by
  unfold cv syn
  have h1 : ∀ k, gm (lam (L.map X) k) (sL L (fun n => gm (e n) (pw (X n) (m - k)))) = sL L (fun n => gm (e n) (gm (lam (L.map X) k) (pw (X n) (m - k)))) := fun k => by
    rw [← sL_gm]
    exact sL_congr (fun n _ => gm_left_comm _ _ _)
  rw [sm_congr (fun k _ => h1 k), sL_sm]
  refine sL_congr (fun n hn => ?_)
  rw [sm_gm]
  congr 1
  have := cv_pw (X n) (lam (oth L X n)) m
  rw [← lam_oth hn] at this
  exact this
/-- no gap -/
theorem no_gap {r : Nat} (hr : L.length ≤ r) : cv (lam (L.map X)) (syn L X e) r = 0 := by
  rw [cv_syn]
  exact sL_zero (fun n hn => by rw [lam_deg _ _ (by have := oth_len (X := X) hn; omega), gm_zero])
theorem pr_other {n k : Nat} (hk : k ∈ L) (hne : n ≠ k) (h0 : X k ≠ 0) : pr (oth L X n) (gi (X k)) = 0 :=
  pr_zero (X := X k) (List.mem_map.2 ⟨k, (List.mem_erase_of_ne (fun e => hne e.symm)).2 hk, rfl⟩) (gm_gi h0)
theorem pr_self (hX : ∀ a ∈ L, ∀ b ∈ L, X a = X b → a = b) (hn : L.Nodup) {k : Nat} (hk : k ∈ L) (h0 : X k ≠ 0) : pr (oth L X k) (gi (X k)) ≠ 0 := by
  refine pr_ne (fun Y hY e => ?_)
  obtain ⟨a, ha, rfl⟩ := List.mem_map.1 hY
  have h1 : X a = X k := gm_cancel (gi_ne h0) (by rw [gm_comm, e, gm_comm, gm_gi h0])
  have ha2 := (List.Nodup.mem_erase_iff hn).1 ha
  exact ha2.1 (hX a ha2.2 k hk h1)
theorem value_at (hn : L.Nodup) (hl : L.length ≤ 64) {k : Nat} (hk : k ∈ L) (h0 : X k ≠ 0) :
    ev (cv (lam (L.map X)) (syn L X e)) 64 (gi (X k)) = gm (e k) (pr (oth L X k) (gi (X k))) := by
  rw [ev_congr _ (fun m _ => cv_syn m)]
  have h1 : ev (fun m => sL L (fun n => gm (e n) (lam (oth L X n) m))) 64 (gi (X k)) = sL L (fun n => gm (e n) (pr (oth L X n) (gi (X k)))) := by
    unfold ev
    have h2 : ∀ m, gm (sL L (fun n => gm (e n) (lam (oth L X n) m))) (pw (gi (X k)) m) = sL L (fun n => gm (e n) (gm (lam (oth L X n) m) (pw (gi (X k)) m))) := fun m => by
      rw [gm_comm, ← sL_gm]
      exact sL_congr (fun n _ => by rw [gm_left_comm, gm_comm (pw _ _)])
    rw [sm_congr (fun m _ => h2 m), sL_sm]
    refine sL_congr (fun n hn => ?_)
    rw [sm_gm]
    congr 1
    have h3 := oth_len (X := X) hn
    exact (ev_more (f := lam (oth L X n)) (gi (X k)) (show (oth L X n).length + 1 ≤ 64 by omega) (fun i h4 _ => lam_deg _ _ (by omega))).trans (ev_lam _ _)
  rw [h1]
  exact sL_one hn hk (fun n _ hne => by rw [pr_other hk hne h0, gm_zero])
theorem slope_at {k : Nat} (hk : k ∈ L) (h0 : X k ≠ 0) : ev (sl (lam (L.map X))) L.length (gi (X k)) = gm (X k) (pr (oth L X k) (gi (X k))) := by
  rw [lam_oth hk, ← oth_len (X := X) hk]
  exact ev_sl (X k) (oth L X k) _ (gm_gi h0)
theorem slope_ne (hX : ∀ a ∈ L, ∀ b ∈ L, X a = X b → a = b) (hn : L.Nodup) {k : Nat} (hk : k ∈ L) (h0 : X k ≠ 0) : ev (sl (lam (L.map X))) L.length (gi (X k)) ≠ 0 := by
  rw [slope_at hk h0]
  exact gm_ne h0 (pr_self hX hn hk h0)
/-- what is wrong at k -/
theorem wrong_at (hX : ∀ a ∈ L, ∀ b ∈ L, X a = X b → a = b) (hn : L.Nodup) (hl : L.length ≤ 64) {k : Nat} (hk : k ∈ L) (h0 : X k ≠ 0) :
    gm (X k) (gm (ev (cv (lam (L.map X)) (syn L X e)) 64 (gi (X k))) (gi (ev (sl (lam (L.map X))) L.length (gi (X k))))) = e k := by
  have hp := pr_self hX hn hk h0
  have hs := slope_ne hX hn hk h0
  rw [value_at hn hl hk h0]
  have h1 := slope_at hk h0
  rw [h1] at hs ⊢
  obtain ⟨p, hpe⟩ : ∃ p, pr (oth L X k) (gi (X k)) = p := ⟨_, rfl⟩
  rw [hpe] at hs ⊢
  rw [gm_assoc, gm_left_comm, ← gm_assoc (X k), gm_gi hs, gm_one]
theorem root_in {k : Nat} (hk : k ∈ L) (h0 : X k ≠ 0) : ev (lam (L.map X)) (L.length + 1) (gi (X k)) = 0 := by
  have := ev_lam (L.map X) (gi (X k))
  rw [List.length_map] at this
  rw [this]
  exact pr_zero (List.mem_map.2 ⟨k, hk, rfl⟩) (gm_gi h0)
theorem root_out {k : Nat} (hX : ∀ a ∈ L, X a ≠ X k) (h0 : X k ≠ 0) : ev (lam (L.map X)) (L.length + 1) (gi (X k)) ≠ 0 := by
  have := ev_lam (L.map X) (gi (X k))
  rw [List.length_map] at this
  rw [this]
  refine pr_ne (fun Y hY e => ?_)
  obtain ⟨a, ha, rfl⟩ := List.mem_map.1 hY
  exact hX a ha (gm_cancel (gi_ne h0) (by rw [gm_comm, e, gm_comm, gm_gi h0]))
/-- where all syndromes are 0 nothing is wrong -/
theorem none_wrong (hX : ∀ a ∈ L, ∀ b ∈ L, X a = X b → a = b) (hn : L.Nodup) (hl : L.length ≤ 64) (hX0 : ∀ a ∈ L, X a ≠ 0) (hs : ∀ j, j < 64 → syn L X e j = 0) : ∀ k ∈ L, e k = 0 := fun k hk => by
  have h := wrong_at (e := e) hX hn hl hk (hX0 k hk)
  rw [ev_congr (g := fun _ => 0) _ (fun m hm => by
    unfold cv
    exact sm_zero (fun i hi => by rw [hs _ (by omega), gm_zero]))] at h
  rw [show ev (fun _ => 0) 64 (gi (X k)) = 0 from sm_zero (fun _ _ => zero_gm _), zero_gm, gm_zero] at h
  exact h.symm
end decode
end Go.Proofs.YtlocgilgdnhnlaaDoor.PoP
