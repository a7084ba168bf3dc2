/- A region that draws its order, with special operations, whose last operations come in any order (a store and assigns behind a call): the head by its one walk, then operation by operation. -/
import Derived.Test.YtfadhgbhdoddpaaDoorRg
import Derived.Orders
import Derived.RegionTactic
namespace Go.Proofs.YtfadhgbhdoddpaaDoor.RgA
open Go Go.RowKit Go.Proofs.YtfadhgbhdoddpaaDoor.Mem Go.Proofs.YtfadhgbhdoddpaaDoor.Q Go.Proofs.YtfadhgbhdoddpaaDoor.Rg

/-- the first n of n + m operations are done -/
def mark (n m : Nat) : Array Bool := (List.replicate n true ++ List.replicate m false).toArray
/-- from k on f operations may come one behind the other, each being free; then all below n are done, and no other one -/
def stepM (md : Region.Mode) (ops : Array Oper) (n : Nat) : Nat → Nat → Array Bool → Bool
  | 0, _, listed => (listed == mark n (ops.size - n)) && (Region.ready md ops listed).all (fun j => decide (n ≤ j))
  | f + 1, k, listed => (Region.ready md ops listed).contains k && Region.free md ops listed k && stepM md ops n f (k + 1) (listed.setIfInBounds k true)
/-- all below n lead to n - 1, and all from n on wait for it (or for one from n on) -/
def headB (md : Region.Mode) (ops : Array Oper) (n : Nat) : Bool :=
  Region.noSelect ops && decide (n < ops.size) && decide (0 < n) &&
  ((List.range n).all fun i => (i + 1 == n) || ((List.range n).any fun j => decide (i < j) && Region.waitsFor md ops j i)) &&
  ((List.range ops.size).all fun t => decide (t < n) || ((List.range ops.size).any fun s => decide (n ≤ s + 1) && Region.waitsFor md ops t s)) &&
  stepM md ops n n 0 (Array.replicate ops.size false)

section
variable {P : Program} {ops : Array Oper} {md : Region.Mode}
theorem head_waits {n : Nat} (h1 : ((List.range n).all fun i => (i + 1 == n) || ((List.range n).any fun j => decide (i < j) && Region.waitsFor md ops j i)) = true)
    (h2 : ((List.range ops.size).all fun t => decide (t < n) || ((List.range ops.size).any fun s => decide (n ≤ s + 1) && Region.waitsFor md ops t s)) = true)
    (listed : Array Bool) (inv : HeadInv md ops n listed) (i : Nat) (hi : i < n) (hun : listed.getD i true = false) (j : Nat) (hj : j ∈ Region.ready md ops listed) : j < n := by
  rcases Nat.lt_or_ge j n with h | h
  · exact h
  · exfalso
    obtain ⟨hju, oj, hoj, hall⟩ := mem_ready.1 hj
    have hjs : j < ops.size := (Array.getElem?_eq_some_iff.1 hoj).1
    have := List.all_eq_true.1 h2 j (by simpa using hjs)
    simp only [Bool.or_eq_true, decide_eq_true_eq, List.any_eq_true, List.mem_range, Bool.and_eq_true] at this
    rcases this with h3 | ⟨s, hs, hs1, hw⟩
    · omega
    · obtain ⟨o', ho', e, he, hb, heq⟩ := Region.waitsFor_spec hw
      obtain rfl : oj = o' := by rw [hoj] at ho'; injection ho'
      have hsd := hall e he hb
      rw [heq] at hsd
      rcases Nat.lt_or_ge s n with h4 | h4
      · obtain rfl : s = n - 1 := by omega
        have key : ∀ d k, k < n → n - 1 - k = d → listed.getD k false = true := by
          intro d
          induction d using Nat.strongRecOn with
          | _ d ih =>
            intro k hk hd
            have h5 := List.all_eq_true.1 h1 k (by simpa using hk)
            simp only [Bool.or_eq_true, beq_iff_eq, List.any_eq_true, List.mem_range, Bool.and_eq_true, decide_eq_true_eq] at h5
            rcases h5 with h5 | ⟨q, hq, hkq, hwq⟩
            · obtain rfl : k = n - 1 := by omega
              exact hsd
            · have hql := ih (n - 1 - q) (by omega) q hq rfl
              obtain ⟨oq, hoq, e2, he2, hb2, heq2⟩ := Region.waitsFor_spec hwq
              have := inv.closed q oq hoq hql e2 he2 hb2
              rw [heq2] at this
              exact this
        have hil := key _ i hi rfl
        have := getD_both hun
        rw [this] at hil
        cases hil
      · have h5 := inv.tail s h4 hs
        rw [getD_both h5] at hsd
        cases hsd

/-- one operation is left -/
theorem wpAny_last {Q : Exit → Act → World → Prop} {i : Nat} {o : Oper} {fuel : Nat} {listed : Array Bool} {a : Act} {w : World} (hi : ops[i]? = some o) (hr : Region.ready md ops listed = [i])
    (hr2 : Region.ready md ops (listed.setIfInBounds i true) = []) (h : wpList P ops Q [o] a w) : wpAny P md ops Q (fuel + 1) listed a w := by
  refine wpAny_all hr (by simp) (fun j hj => ?_)
  obtain rfl : j = i := by simpa using hj
  unfold wpOp
  rw [hi]
  show if Region.wanted o (yielded ops a.tmps) = true then _ else _
  simp only [wpList] at h
  have hd : ∀ a w, Q .normal a w → wpAny P md ops Q fuel (listed.setIfInBounds j true) a w := fun a w hq => wpAny_done hr2 hq fuel
  split at h
  · rename_i hw
    rw [if_pos hw]
    exact h.imp (Oper.wp_mono hd) id
  · rename_i hw
    rw [if_neg hw]
    exact hd _ _ h
end
/-- from k on one order is left -/
theorem wpAny_seq {P : Program} {Q : Exit → Act → World → Prop} {l : List Oper} {listed : Array Bool} {a : Act} {w : World} (k : Nat) {g : Nat} (hg : l.length = k + g) (hB : Region.seqB .any l.toArray g k listed = true) (h : wpList P l.toArray Q (l.drop k) a w) : wpAny P .any l.toArray Q g listed a w := by
  have hl : (l.drop k).length = g := by simp; omega
  have := wpAny_of_seq (md := .any) (Q' := Q) (l.drop k) k listed a w (fun j => by simp [List.getElem?_drop]) (by rw [hl]; exact hB) h
  rwa [hl] at this
theorem region_tail {P : Program} {id : Nat} {Q : Exit → Act → World → Prop} {a : Act} {w : World} {l : List Oper} (sp : List (Nat × Sp)) (n g : Nat) (hg : l.length = n + g) (hm : P.follows .mixedOrders = true) (hB : headB .any l.toArray n = true) (hsn : sp.all (fun s => decide (s.1 < n)) = true)
    (hinh : ∀ i s, sp.lookup i = some s → ∃ v, s.is v) (hmono : ∀ i s, sp.lookup i = some s → ∀ v w w', s.post v w → Le w w' → s.post v w')
    (h : ∀ σ : Nat → Value, (∀ i s, sp.lookup i = some s → s.is (σ i)) → wpN P l.toArray (fun w' => ∃ p : Ext, w' = ext w p) sp σ (fun a' => ∀ w', (∃ p : Ext, w' = ext w p) → (∀ i s, sp.lookup i = some s → s.post (σ i) w') → wpAny P .any l.toArray Q g (mark n g) a' w') (l.take n) 0 a) :
    (Code.region id l.toArray true).wp P Q a w := by
  have hlk : ∀ i s, sp.lookup i = some s → i < n := by
    clear hinh hmono h
    induction sp with
    | nil => intro i s h; cases h
    | cons x t ih =>
      simp only [List.all_cons, Bool.and_eq_true, decide_eq_true_eq] at hsn
      intro i s h
      rw [List.lookup_cons] at h
      split at h
      · rename_i e; have : i = x.1 := by simpa using e
        rw [this]; exact hsn.1
      · exact ih hsn.2 i s h
  simp only [headB, Bool.and_eq_true, decide_eq_true_eq] at hB
  obtain ⟨⟨⟨⟨⟨hsel, hn⟩, _⟩, hs⟩, hc⟩, hlex⟩ := hB
  have hn' : n < l.length := by simpa using hn
  have htl : (l.take n).length = n := by simp; omega
  have hdl : g = l.toArray.size - n := by simp; omega
  have inv0 : HeadInv .any l.toArray n (Array.replicate l.toArray.size false) :=
    ⟨by simp, fun j oj _ hl => (by rw [getD_replicate_false] at hl; cases hl), fun t _ ht => getD_in (by simpa using ht) (getD_replicate_false _ _)⟩
  have hch : ∀ i, ∃ v, ∀ s, sp.lookup i = some s → s.is v := fun i => by
    cases hi : sp.lookup i with
    | none => exact ⟨undef, fun s h => by cases h⟩
    | some s => obtain ⟨v, hv⟩ := hinh i s hi; exact ⟨v, fun s' h' => by injection h' with h'; subst h'; exact hv⟩
  obtain ⟨σ0, hσ0⟩ := Classical.axiomOfChoice hch
  refine wp_region_any hm ?_
  have := any_of_headN (P := P) (ops := l.toArray) (C := fun w' => Le w w') (sp := sp) (n := n) (g := l.toArray.size - n) (Q' := Q)
    (L := fun σ listed' a' => (((listed' == mark n (l.toArray.size - n)) && (Region.ready .any l.toArray listed').all (fun j => decide (n ≤ j))) = true ∧ ∀ j, j < n → listed'.getD j false = true) ∧ ∀ w', Le w w' → (∀ i s, sp.lookup i = some s → s.post (σ i) w') → wpAny P .any l.toArray Q g (mark n g) a' w')
    up_C hmono (fun σ listed a' w' hw' hgd hp hL => by
      obtain ⟨⟨hE, hd⟩, hk⟩ := hL
      simp only [Bool.and_eq_true, beq_iff_eq] at hE
      have := hk w' hw' (fun i s hi => hp i s hi (hd i (hlk i s hi)))
      rw [hE.1, ← hdl]
      exact this) n (Array.replicate l.toArray.size false) a { w with drawn := w.drawn + 1 } σ0 (le_of ((Below.refl _ _).drew)) (fun i s hi => hσ0 i s hi) (fun i s hi hl => by rw [getD_replicate_false] at hl; cases hl) (fun σ hσ _ => by
      have := headN_lex (P := P) (md := .any) (C := fun w' => Le w w') (sp := sp) (σ := σ) (E := fun listed => (listed == mark n (l.toArray.size - n)) && (Region.ready .any l.toArray listed).all (fun j => decide (n ≤ j))) hsel
        (head_waits hs hc)
        (fun listed hE j hj => by
          simp only [Bool.and_eq_true, List.all_eq_true, decide_eq_true_eq] at hE
          exact hE.2 j hj) (stepM .any l.toArray n)
        (fun listed hk => hk)
        (fun f k listed hk => by
          simp only [stepM, Bool.and_eq_true] at hk
          exact ⟨by simpa using hk.1.1, hk.1.2, hk.2⟩)
        (l.take n) 0 (Array.replicate l.toArray.size false) a (fun j hj => by
          have hj' : j < n := by rw [htl] at hj; exact hj
          simp [hj']) (by simpa using htl) inv0 (fun j hj => by omega) (by rw [htl]; exact hlex) (h σ hσ)
      rw [htl] at this
      exact this)
  rw [show n + (l.toArray.size - n) = l.toArray.size by omega] at this
  exact this
end Go.Proofs.YtfadhgbhdoddpaaDoor.RgA
