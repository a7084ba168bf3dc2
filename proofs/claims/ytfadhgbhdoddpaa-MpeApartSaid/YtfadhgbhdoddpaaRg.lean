/- A region that draws its order: operations that only read, and special ones (calls, allocations), of which a letter stands for the value; behind them operations in a forced order. One walk in the text's order serves every order. -/
import Derived.Test.YtfadhgbhdoddpaaQ
import Derived.Deep.MidRow
namespace Go.Proofs.Ytfadhgbhdoddpaa.Rg
open Go Go.RowKit Go.Proofs.Ytfadhgbhdoddpaa.Mem Go.Proofs.Ytfadhgbhdoddpaa.Q

/-- the world only grew -/
def Le (w w' : World) : Prop := ∃ p : Ext, w' = ext w p
theorem le_refl (w : World) : Le w w := ext_of_below (Below.refl _ _)
theorem le_below {w w' : World} (h : Le w w') : Below w.heap.size w w' := by obtain ⟨p, rfl⟩ := h; exact below_ext w p
theorem le_of {w w' : World} (h : Below w.heap.size w w') : Le w w' := ext_of_below h
theorem le_trans {a b c : World} (h : Le a b) (k : Le b c) : Le a c := le_of ((le_below h).trans ((le_below k).mono (le_below h).size))
theorem le_alloc (w : World) (o : Obj) : Le w (w.alloc o) := le_of ((Below.refl _ _).alloc (Nat.le_refl _) _)

/-- a special operation: what its value is, and what holds behind it, for good -/
structure Sp where
  is : Value → Prop
  post : Value → World → Prop

/-- an operation that enters no function -/
def plain : Op → Bool
  | .move _ | .assign _ | .pick .. | .build .. | .load .. | .binOp .. | .unOp .. | .convert .. | .slice .. | .fieldAddr .. | .field .. | .indexAddr .. | .index .. | .extract .. | .lookup .. | .makeInterface .. => true
  | .call c => match c.callee with
    | .builtin .len | .builtin .cap | .builtin .min | .builtin .max => true
    | _ => false
  | _ => false

section
variable {P : Program} {ops : Array Oper} {md : Region.Mode} {C : World → Prop} {sp : List (Nat × Sp)} {σ : Nat → Value}

theorem v_not_enter {β : Type} {s : Sem β} {g : β → Value} {w w' : World} {f : FuncId} {args : Array Value} : ((do pure (Next.value (g (← s))) : Sem Next)).run P w ≠ .ok (.enter f args) w' := by
  intro h
  rw [Sem.run_bind] at h
  cases hs : s.run P w with
  | ok x w1 => rw [hs] at h; simp [Result.andThen] at h
  | halt x w1 => rw [hs] at h; simp [Result.andThen] at h
theorem plain_not_enter {ρ : Operand → Value} {o : Oper} {w w' : World} {f : FuncId} {args : Array Value} (hp : plain o.op = true) : (execOp ρ o).run P w ≠ .ok (.enter f args) w' := by
  intro h
  unfold execOp at h
  cases hop : o.op
  case call c =>
    rw [hop] at h hp
    simp only [plain] at hp
    split at hp
    all_goals first | (cases hp; done) | skip
    all_goals
      rename_i hc
      simp only [resolve, hc] at h
      exact v_not_enter (g := id) h
  all_goals (rw [hop] at h hp; first | (cases hp; done) | skip)
  case move x => exact v_not_enter (s := (pure (ρ x) : Sem Value)) (g := id) h
  case assign x => exact v_not_enter (s := (pure (ρ x) : Sem Value)) (g := id) h
  case pick c x y => exact v_not_enter (s := asBool (ρ c)) (g := fun b => if b = true then ρ x else ρ y) h
  all_goals exact v_not_enter (g := id) h

/-- a special operation's run -/
def spUpon (P : Program) (s : Sp) (w : World) : Result Next → Prop
  | .ok (.value v) w' => Le w w' ∧ s.is v ∧ s.post v w'
  | .ok (.enter f args) w' => w' = w ∧ Calls P f args w (fun e w'' => ∃ v, e = .returned v ∧ Le w w'' ∧ s.is v ∧ s.post v w'')
  | _ => False
/-- what the special operations that it waits for have left -/
def Dep (sp : List (Nat × Sp)) (σ : Nat → Value) (o : Oper) (w : World) : Prop := ∀ e ∈ o.after, Region.binds .any e = true → ∀ s, sp.lookup e.on = some s → s.post (σ e.on) w
def spAt (P : Program) (C : World → Prop) (sp : List (Nat × Sp)) (σ : Nat → Value) (s : Sp) (o : Oper) (a : Act) : Prop := ∀ w, C w → Dep sp σ o w → spUpon P s w ((execOp a.eval o).run P w)

/-- operation i yields v -/
def NY (P : Program) (ops : Array Oper) (C : World → Prop) (sp : List (Nat × Sp)) (σ : Nat → Value) (i : Nat) (o : Oper) (v : Value) (a : Act) : Prop :=
  match sp.lookup i with
  | some s => Region.wanted o (yielded ops a.tmps) = true ∧ spAt P C sp σ s o a ∧ v = σ i
  | none => (Region.wanted o (yielded ops a.tmps) = true ∧ plain o.op = true ∧ ∀ w, C w → o.quietAt P a C w v) ∨ (Region.wanted o (yielded ops a.tmps) = false ∧ v = undef)

theorem NY.of_same {i : Nat} {o : Oper} {v : Value} {a a' : Act} (hy : NY P ops C sp σ i o v a) (he : execOp a'.eval o = execOp a.eval o)
    (hw : Region.wanted o (yielded ops a'.tmps) = Region.wanted o (yielded ops a.tmps)) : NY P ops C sp σ i o v a' := by
  unfold NY spAt Oper.quietAt at *
  rw [he, hw]
  exact hy

def nOp (P : Program) (ops : Array Oper) (C : World → Prop) (sp : List (Nat × Sp)) (σ : Nat → Value) (i : Nat) (K : Act → Prop) (a : Act) : Prop :=
  ∃ o v, ops[i]? = some o ∧ NY P ops C sp σ i o v a ∧ K (a.put o.dst v)

theorem nOp_mono {i : Nat} {a : Act} {K K' : Act → Prop} (h : ∀ a, K a → K' a) : nOp P ops C sp σ i K a → nOp P ops C sp σ i K' a :=
  fun ⟨o, v, h1, h2, h3⟩ => ⟨o, v, h1, h2, h _ h3⟩

theorem nOp_put {i j : Nat} {oi oj : Oper} {v : Value} (hj : ops[j]? = some oj) (hap : oi.apart ops oj = true)
    (hsi : ∀ cs b, oi.op ≠ .select cs b) (hsj : ∀ cs b, oj.op ≠ .select cs b) {K : Act → Prop} {a : Act}
    (hy : NY P ops C sp σ i oi v a) (h : nOp P ops C sp σ j K (a.put oi.dst v)) :
    nOp P ops C sp σ j (fun a' => NY P ops C sp σ i oi v a' ∧ K (a'.put oi.dst v)) a := by
  obtain ⟨h1, h2, h3⟩ := Oper.apart_spec hap
  obtain ⟨o, u, ho, hu, hK⟩ := h
  obtain rfl : oj = o := by rw [hj] at ho; injection ho
  exact ⟨oj, u, hj, hu.of_same (execOp_put oj hsj a oi.dst v h1).symm (wanted_put oj a oi.dst v h1).symm,
    hy.of_same (execOp_put oi hsi a oj.dst u h3) (wanted_put oi a oj.dst u h3), by rw [← Act.put_comm a v u h2]; exact hK⟩

/-- the operations below n, in whatever order; then L -/
def HeadN (P : Program) (md : Region.Mode) (ops : Array Oper) (C : World → Prop) (sp : List (Nat × Sp)) (σ : Nat → Value) (n : Nat) (L : Array Bool → Act → Prop) : Nat → Array Bool → Act → Prop
  | 0, listed, a => L listed a
  | f + 1, listed, a =>
    Region.ready md ops listed ≠ [] ∧ ∀ i ∈ Region.ready md ops listed, i < n ∧ nOp P ops C sp σ i (HeadN P md ops C sp σ n L f (listed.setIfInBounds i true)) a

theorem any_of_headN {n g : Nat} {L : (Nat → Value) → Array Bool → Act → Prop} {Q' : Exit → Act → World → Prop} (hC : ∀ w w', C w → Le w w' → C w')
    (hmono : ∀ i s, sp.lookup i = some s → ∀ v w w', s.post v w → Le w w' → s.post v w')
    (hL : ∀ σ listed a w, C w → (∀ i s, sp.lookup i = some s → s.is (σ i)) → (∀ i s, sp.lookup i = some s → listed.getD i false = true → s.post (σ i) w) → L σ listed a → wpAny P .any ops Q' g listed a w) :
    ∀ (f : Nat) (listed : Array Bool) (a : Act) (w : World) (σ0 : Nat → Value), C w → (∀ i s, sp.lookup i = some s → s.is (σ0 i)) → (∀ i s, sp.lookup i = some s → listed.getD i false = true → s.post (σ0 i) w) →
      (∀ σ, (∀ i s, sp.lookup i = some s → s.is (σ i)) → (∀ i, listed.getD i false = true → σ i = σ0 i) → HeadN P .any ops C sp σ n (L σ) f listed a) → wpAny P .any ops Q' (f + g) listed a w
  | 0, listed, a, w, σ0, hw, hg, hp, h => by rw [Nat.zero_add]; exact hL σ0 _ _ _ hw hg hp (h σ0 hg (fun _ _ => rfl))
  | f + 1, listed, a, w, σ0, hw, hg, hp, h => by
    rw [show f + 1 + g = (f + g) + 1 by omega]
    have h0 := h σ0 hg (fun _ _ => rfl)
    refine ⟨fun hr => absurd hr h0.1, fun i hi => ?_⟩
    obtain ⟨o, v, ho, hy, hK⟩ := (h0.2 i hi).2
    have hun : listed.getD i false = false := getD_both (mem_ready.1 hi).1
    have hset : ∀ k, (listed.setIfInBounds i true).getD k false = true → k = i ∨ listed.getD k false = true := fun k hk => by
      by_cases hki : k = i
      · exact Or.inl hki
      · rw [getD_set_ne false (Ne.symm hki)] at hk; exact Or.inr hk
    unfold wpOp
    simp only [ho]
    unfold NY at hy
    cases hs : sp.lookup i with
    | some s =>
      rw [hs] at hy
      obtain ⟨hwant, hsp, _⟩ := hy
      rw [if_pos hwant]
      left
      have go : ∀ v w', Le w w' → s.is v → s.post v w' → wpAny P .any ops Q' (f + g) (listed.setIfInBounds i true) (a.put o.dst v) w' := fun v w' hle his hpo => by
        refine any_of_headN (n := n) hC hmono hL f _ _ w' (fun k => if k = i then v else σ0 k) (hC _ _ hw hle) (fun k s' hk => ?_) (fun k s' hk hl => ?_) (fun σ hσ hag => ?_)
        · by_cases hki : k = i
          · subst hki
            rw [hs] at hk
            injection hk with hk
            subst hk
            simpa using his
          · simpa [hki] using hg k s' hk
        · by_cases hki : k = i
          · subst hki
            rw [hs] at hk
            injection hk with hk
            subst hk
            simpa using hpo
          · rcases hset k hl with e | e
            · exact absurd e hki
            · simpa [hki] using hmono k s' hk _ _ _ (hp k s' hk e) hle
        · have hσi : σ i = v := by
            have := hag i (by
              have hlt : i < listed.size := by
                rcases Nat.lt_or_ge i listed.size with h' | h'
                · exact h'
                · have := (mem_ready.1 hi).1; simp [Array.getElem?_eq_none h'] at this
              simp [hlt])
            simpa using this
          have hH := h σ hσ (fun k hk => by
            have hki : k ≠ i := fun e => by subst e; rw [hun] at hk; cases hk
            have := hag k (by rw [getD_set_ne false (Ne.symm hki)]; exact hk)
            simpa [hki] using this)
          obtain ⟨o', v', ho', hy', hK'⟩ := (hH.2 i hi).2
          obtain rfl : o = o' := by rw [ho] at ho'; injection ho'
          unfold NY at hy'
          rw [hs] at hy'
          rw [hy'.2.2, hσi] at hK'
          exact hK'
      have hrun := hsp w hw (fun e he hb s' hs' => hp e.on s' hs' (by obtain ⟨_, o2, ho2, hall⟩ := mem_ready.1 hi; rw [ho] at ho2; injection ho2 with ho2; subst ho2; exact hall e he hb))
      unfold Oper.wp
      generalize (execOp a.eval o).run P w = r at hrun ⊢
      cases r with
      | ok nx w' =>
        cases nx <;> simp only [spUpon] at hrun <;> simp only [Oper.upon]
        case value u => exact go u w' hrun.1 hrun.2.1 hrun.2.2
        case enter f' args =>
          obtain ⟨e1, hc⟩ := hrun
          rw [e1]
          exact hc.mono fun e w'' ⟨v, he, hle, his, hpo⟩ => by subst he; exact go v w'' hle his hpo
      | halt x w' => simp only [spUpon] at hrun
    | none =>
      rw [hs] at hy
      have next : ∀ v, (∀ σ, (∀ i s, sp.lookup i = some s → s.is (σ i)) → (∀ i, listed.getD i false = true → σ i = σ0 i) → HeadN P .any ops C sp σ n (L σ) f (listed.setIfInBounds i true) (a.put o.dst v)) →
          wpAny P .any ops Q' (f + g) (listed.setIfInBounds i true) (a.put o.dst v) w := fun v hv => by
        refine any_of_headN (n := n) hC hmono hL f _ _ w σ0 hw hg (fun k s' hk hl => ?_) (fun σ hσ hag => hv σ hσ fun k hk => hag k ?_)
        · rcases hset k hl with e | e
          · subst e; rw [hs] at hk; cases hk
          · exact hp k s' hk e
        · have hki : k ≠ i := fun e => by subst e; rw [hun] at hk; cases hk
          rw [getD_set_ne false (Ne.symm hki)]; exact hk
      rcases hy with ⟨hwant, hpl, hq⟩ | ⟨hwant, rfl⟩
      · rw [if_pos hwant]
        left
        have hq0 := hq w hw
        have hall : ∀ σ, (∀ i s, sp.lookup i = some s → s.is (σ i)) → (∀ i, listed.getD i false = true → σ i = σ0 i) → ∃ v', o.quietAt P a C w v' ∧ HeadN P .any ops C sp σ n (L σ) f (listed.setIfInBounds i true) (a.put o.dst v') := fun σ hσ hag => by
          obtain ⟨o', v', ho', hy', hK'⟩ := ((h σ hσ hag).2 i hi).2
          obtain rfl : o = o' := by rw [ho] at ho'; injection ho'
          unfold NY at hy'
          rw [hs] at hy'
          rcases hy' with ⟨_, _, hq'⟩ | ⟨hw', _⟩
          · exact ⟨v', hq' w hw, hK'⟩
          · rw [hwant] at hw'; cases hw'
        unfold Oper.quietAt at hq0 hall
        have hne := fun f' args w' => plain_not_enter (P := P) (ρ := a.eval) (w := w) (f := f') (args := args) (w' := w') hpl
        unfold Oper.wp
        generalize (execOp a.eval o).run P w = r at hq0 hall hne ⊢
        cases r with
        | ok nx w' =>
          cases nx <;> simp only [Oper.quietUpon] at hq0 hall <;> simp only [Oper.upon]
          case value u =>
            obtain ⟨rfl, rfl⟩ := hq0
            exact next u fun σ hσ hag => by
              obtain ⟨v', ⟨_, hv'⟩, hK'⟩ := hall σ hσ hag
              rw [hv']; exact hK'
          case skip =>
            obtain ⟨rfl, rfl⟩ := hq0
            exact next undef fun σ hσ hag => by
              obtain ⟨v', ⟨_, hv'⟩, hK'⟩ := hall σ hσ hag
              rw [← hv']; exact hK'
          case enter f' args => exact absurd rfl (hne f' args w')
        | halt x w' => simp only [Oper.quietUpon] at hq0
      · rw [if_neg (by rw [hwant]; exact Bool.false_ne_true)]
        exact next undef fun σ hσ hag => by
          obtain ⟨o', v', ho', hy', hK'⟩ := ((h σ hσ hag).2 i hi).2
          obtain rfl : o = o' := by rw [ho] at ho'; injection ho'
          unfold NY at hy'
          rw [hs] at hy'
          rcases hy' with ⟨hw', _⟩ | ⟨_, hv'⟩
          · rw [hwant] at hw'; cases hw'
          · rw [← hv']; exact hK'

theorem headN_first {n i : Nat} {oi : Oper} {v : Value} {L : Array Bool → Act → Prop} (hi : ops[i]? = some oi) (hsel : ∀ (j : Nat) (o : Oper) cs b, ops[j]? = some o → o.op ≠ .select cs b)
    (hwait : ∀ listed, HeadInv md ops n listed → ∀ i, i < n → listed.getD i true = false → ∀ j ∈ Region.ready md ops listed, j < n) (hin : i < n)
    (hdone : ∀ listed a, L listed a → ∀ j ∈ Region.ready md ops listed, n ≤ j) :
    ∀ (f : Nat) (listed : Array Bool) (a : Act), HeadInv md ops n listed →
      (∀ j oj, ops[j]? = some oj → j ≠ i → listed.getD j true = false → (∀ e ∈ oj.after, Region.binds md e = true → e.on ≠ i) → oi.apart ops oj = true) →
      i ∈ Region.ready md ops listed → NY P ops C sp σ i oi v a →
      HeadN P md ops C sp σ n L f (listed.setIfInBounds i true) (a.put oi.dst v) → HeadN P md ops C sp σ n L (f + 1) listed a := by
  intro f
  induction f with
  | zero =>
    intro listed a inv _ hr hy H
    have hun := (mem_ready.1 hr).1
    refine ⟨fun h => (by rw [h] at hr; cases hr), fun j hj => ?_⟩
    have hjn : j < n := hwait listed inv i hin hun j hj
    refine ⟨hjn, ?_⟩
    by_cases hji : j = i
    · subst hji; exact ⟨oi, v, hi, hy, H⟩
    · have := hdone _ _ H j (ready_mono hj hji)
      omega
  | succ f ih =>
    intro listed a inv hfree hr hy H
    have hun := (mem_ready.1 hr).1
    refine ⟨fun h => (by rw [h] at hr; cases hr), fun j hj => ?_⟩
    have hjn : j < n := hwait listed inv i hin hun j hj
    refine ⟨hjn, ?_⟩
    by_cases hji : j = i
    · subst hji; exact ⟨oi, v, hi, hy, H⟩
    · have h1 := (H.2 j (ready_mono hj hji)).2
      obtain ⟨hjun, oj, hoj, hall⟩ := mem_ready.1 hj
      have hnot : ∀ e ∈ oj.after, Region.binds md e = true → e.on ≠ i := fun e he hb heq => by
        have h1 := hall e he hb
        rw [heq, getD_both hun] at h1
        cases h1
      have h2 := nOp_put hoj (hfree j oj hoj hji hjun hnot) (fun cs b => hsel i oi cs b hi) (fun cs b => hsel j oj cs b hoj) hy h1
      have hfree' : ∀ k ok, ops[k]? = some ok → k ≠ i → (listed.setIfInBounds j true).getD k true = false →
          (∀ e ∈ ok.after, Region.binds md e = true → e.on ≠ i) → oi.apart ops ok = true := fun k ok hk hki hun hno => by
        refine hfree k ok hk hki ?_ hno
        by_cases hjk : j = k
        · subst hjk; exact hjun
        · rw [getD_set_ne true hjk] at hun; exact hun
      refine nOp_mono (fun a' h3 => ih (listed.setIfInBounds j true) a' (inv.set hj hjn) hfree' (ready_mono hr (Ne.symm hji)) h3.1 ?_) h2
      rw [Array.setIfInBounds_comm _ _ hji]
      exact h3.2

/-- the walk in the text's order -/
def wpN (P : Program) (ops : Array Oper) (C : World → Prop) (sp : List (Nat × Sp)) (σ : Nat → Value) (Q : Act → Prop) : List Oper → Nat → Act → Prop
  | [], _, a => Q a
  | o :: rest, i, a => ∃ v, NY P ops C sp σ i o v a ∧ wpN P ops C sp σ Q rest (i + 1) (a.put o.dst v)

theorem headN_lex {n : Nat} {Lq : Act → Prop} {E : Array Bool → Bool} (hsel : Region.noSelect ops = true)
    (hwait : ∀ listed, HeadInv md ops n listed → ∀ i, i < n → listed.getD i true = false → ∀ j ∈ Region.ready md ops listed, j < n)
    (hE : ∀ listed, E listed = true → ∀ j ∈ Region.ready md ops listed, n ≤ j) (step : Nat → Nat → Array Bool → Bool)
    (h0s : ∀ listed, step 0 n listed = true → E listed = true)
    (hss : ∀ f k listed, step (f + 1) k listed = true → k ∈ Region.ready md ops listed ∧ Region.free md ops listed k = true ∧ step f (k + 1) (listed.setIfInBounds k true) = true) :
    ∀ (l : List Oper) (k : Nat) (listed : Array Bool) (a : Act), (∀ j, j < l.length → l[j]? = ops[k + j]?) → k + l.length = n → HeadInv md ops n listed → (∀ j, j < k → listed.getD j false = true) →
    step l.length k listed = true → wpN P ops C sp σ Lq l k a →
    HeadN P md ops C sp σ n (fun listed' a' => (E listed' = true ∧ ∀ j, j < n → listed'.getD j false = true) ∧ Lq a') l.length listed a
  | [], k, listed, a, _, hk, _, hdone, hB, h => by
    have : k = n := by simpa using hk
    subst this
    exact ⟨⟨h0s _ (by simpa using hB), hdone⟩, h⟩
  | o :: l, k, listed, a, hl, hk, inv, hdone, hB, h => by
    have h0 : ops[k]? = some o := by simpa using (hl 0 (by simp)).symm
    obtain ⟨hr', hf, hB'⟩ := hss l.length k listed (by simpa using hB)
    have hkn : k < n := by simp only [List.length_cons] at hk; omega
    obtain ⟨v, hy, hK⟩ := h
    exact headN_first h0 (Region.noSelect_spec hsel) hwait hkn (fun listed' a' hL => hE _ hL.1.1) l.length listed a inv (Region.free_spec h0 hf) hr' hy
      (headN_lex hsel hwait hE step h0s hss l (k + 1) _ _ (fun j hj => by have := hl (j + 1) (by simp; omega); simpa [Nat.add_assoc, Nat.add_comm 1 j] using this) (by simp only [List.length_cons] at hk; omega) (inv.set hr' hkn)
        (fun j hj => by
          by_cases hjk : j = k
          · subst hjk
            have hlt : j < listed.size := by
              rcases Nat.lt_or_ge j listed.size with h' | h'
              · exact h'
              · have := (mem_ready.1 hr').1; simp [Array.getElem?_eq_none h'] at this
            simp [hlt]
          · rw [getD_set_ne false (Ne.symm hjk)]; exact hdone j (by omega)) hB' hK)

theorem up_C {w0 : World} : ∀ w w', Le w0 w → Le w w' → Le w0 w' := fun _ _ h k => le_trans h k

/-- with a tail in a forced order -/
theorem region_new {id : Nat} {Q : Exit → Act → World → Prop} {a : Act} {w : World} {l : List Oper} (sp : List (Nat × Sp)) (n : Nat) (hm : P.follows .mixedOrders = true) (hB : Region.lexTailB .any l.toArray n = true) (hsn : sp.all (fun s => decide (s.1 < n)) = true)
    (hinh : ∀ i s, sp.lookup i = some s → ∃ v, s.is v) (hmono : ∀ i s, sp.lookup i = some s → ∀ v w w', s.post v w → Le w w' → s.post v w')
    (h : ∀ σ : Nat → Value, (∀ i s, sp.lookup i = some s → s.is (σ i)) → wpN P l.toArray (fun w' => ∃ p : Ext, w' = ext w p) sp σ (fun a' => ∀ w', (∃ p : Ext, w' = ext w p) → (∀ i s, sp.lookup i = some s → s.post (σ i) w') → wpList P l.toArray Q (l.drop n) a' w') (l.take n) 0 a) :
    (Code.region id l.toArray true).wp P Q a w := by
  have hlk : ∀ i s, sp.lookup i = some s → i < n := by
    clear hinh hmono h
    induction sp with
    | nil => intro i s h; cases h
    | cons x t ih =>
      simp only [List.all_cons, Bool.and_eq_true, decide_eq_true_eq] at hsn
      intro i s h
      rw [List.lookup_cons] at h
      split at h
      · rename_i e; have : i = x.1 := by simpa using e
        rw [this]; exact hsn.1
      · exact ih hsn.2 i s h
  simp only [Region.lexTailB, Bool.and_eq_true, decide_eq_true_eq] at hB
  obtain ⟨⟨⟨⟨hsel, hn⟩, hs⟩, hc⟩, hlex⟩ := hB
  have hn' : n < l.length := by simpa using hn
  have htl : (l.take n).length = n := by simp; omega
  have hdl : (l.drop n).length = l.toArray.size - n := by simp
  have inv0 : HeadInv .any l.toArray n (Array.replicate l.toArray.size false) :=
    ⟨by simp, fun j oj _ hl => (by rw [getD_replicate_false] at hl; cases hl), fun t _ ht => getD_in (by simpa using ht) (getD_replicate_false _ _)⟩
  have hch : ∀ i, ∃ v, ∀ s, sp.lookup i = some s → s.is v := fun i => by
    cases hi : sp.lookup i with
    | none => exact ⟨undef, fun s h => by cases h⟩
    | some s => obtain ⟨v, hv⟩ := hinh i s hi; exact ⟨v, fun s' h' => by injection h' with h'; subst h'; exact hv⟩
  obtain ⟨σ0, hσ0⟩ := Classical.axiomOfChoice hch
  refine wp_region_any hm ?_
  have := any_of_headN (P := P) (ops := l.toArray) (C := fun w' => Le w w') (sp := sp) (n := n) (g := l.toArray.size - n) (Q' := Q)
    (L := fun σ listed' a' => (Region.seqB .any l.toArray (l.toArray.size - n) n listed' = true ∧ ∀ j, j < n → listed'.getD j false = true) ∧ ∀ w', Le w w' → (∀ i s, sp.lookup i = some s → s.post (σ i) w') → wpList P l.toArray Q (l.drop n) a' w')
    up_C hmono (fun σ listed a' w' hw' hgd hp hL => by
      have := wpAny_of_seq (md := .any) (Q' := Q) (l.drop n) n listed a' w' (fun j => by simp [List.getElem?_drop]) (by rw [hdl]; exact hL.1.1) (hL.2 w' hw' (fun i s hi => hp i s hi (hL.1.2 i (hlk i s hi))))
      rwa [hdl] at this) n (Array.replicate l.toArray.size false) a { w with drawn := w.drawn + 1 } σ0 (le_of ((Below.refl _ _).drew)) (fun i s hi => hσ0 i s hi) (fun i s hi hl => by rw [getD_replicate_false] at hl; cases hl) (fun σ hσ _ => by
      have := headN_lex (P := P) (md := .any) (C := fun w' => Le w w') (sp := sp) (σ := σ) (E := fun listed => Region.seqB .any l.toArray (l.toArray.size - n) n listed) hsel
        (fun listed inv i hi hun j hj => by
          rcases Nat.lt_or_ge j n with h | h
          · exact h
          · exact absurd hj (tail_waits hs hc hn inv _ i rfl hi hun j h))
        (fun listed hE => seqB_ready hE) (Region.lexHead .any l.toArray (l.toArray.size - n))
        (fun listed hk => hk)
        (fun f k listed hk => by
          simp only [Region.lexHead, Bool.and_eq_true] at hk
          exact ⟨by simpa using hk.1.1, hk.1.2, hk.2⟩)
        (l.take n) 0 (Array.replicate l.toArray.size false) a (fun j hj => by
          have hj' : j < n := by rw [htl] at hj; exact hj
          simp [hj']) (by simpa using htl) inv0 (fun j hj => by omega) (by rw [htl]; exact hlex) (h σ hσ)
      rw [htl] at this
      exact this)
  rw [show n + (l.toArray.size - n) = l.toArray.size by omega] at this
  exact this

/-- the whole region in any order -/
theorem region_new_all {id : Nat} {Q : Exit → Act → World → Prop} {a : Act} {w : World} {l : List Oper} (sp : List (Nat × Sp)) (hm : P.follows .mixedOrders = true) (hB : Region.lexB .any l.toArray = true) (hsn : sp.all (fun s => decide (s.1 < l.length)) = true)
    (hinh : ∀ i s, sp.lookup i = some s → ∃ v, s.is v) (hmono : ∀ i s, sp.lookup i = some s → ∀ v w w', s.post v w → Le w w' → s.post v w')
    (h : ∀ σ : Nat → Value, (∀ i s, sp.lookup i = some s → s.is (σ i)) → wpN P l.toArray (fun w' => ∃ p : Ext, w' = ext w p) sp σ (fun a' => ∀ w', (∃ p : Ext, w' = ext w p) → (∀ i s, sp.lookup i = some s → s.post (σ i) w') → Q .normal a' w') l 0 a) :
    (Code.region id l.toArray true).wp P Q a w := by
  have hlk : ∀ i s, sp.lookup i = some s → i < l.length := by
    clear hinh hmono h
    induction sp with
    | nil => intro i s h; cases h
    | cons x t ih =>
      simp only [List.all_cons, Bool.and_eq_true, decide_eq_true_eq] at hsn
      intro i s h
      rw [List.lookup_cons] at h
      split at h
      · rename_i e; have : i = x.1 := by simpa using e
        rw [this]; exact hsn.1
      · exact ih hsn.2 i s h
  simp only [Region.lexB, Bool.and_eq_true] at hB
  obtain ⟨hsel, hlex⟩ := hB
  have inv0 : HeadInv .any l.toArray l.length (Array.replicate l.toArray.size false) :=
    ⟨by simp, fun j oj _ hl => (by rw [getD_replicate_false] at hl; cases hl), fun t h1 ht => by simp at ht; omega⟩
  have hch : ∀ i, ∃ v, ∀ s, sp.lookup i = some s → s.is v := fun i => by
    cases hi : sp.lookup i with
    | none => exact ⟨undef, fun s h => by cases h⟩
    | some s => obtain ⟨v, hv⟩ := hinh i s hi; exact ⟨v, fun s' h' => by injection h' with h'; subst h'; exact hv⟩
  obtain ⟨σ0, hσ0⟩ := Classical.axiomOfChoice hch
  refine wp_region_any hm ?_
  have := any_of_headN (P := P) (ops := l.toArray) (C := fun w' => Le w w') (sp := sp) (n := l.length) (g := 0) (Q' := Q)
    (L := fun σ listed' a' => ((Region.ready .any l.toArray listed').isEmpty = true ∧ ∀ j, j < l.length → listed'.getD j false = true) ∧ ∀ w', Le w w' → (∀ i s, sp.lookup i = some s → s.post (σ i) w') → Q .normal a' w')
    up_C hmono (fun σ listed a' w' hw' hgd hp hL => ⟨by simpa using hL.1.1, hL.2 w' hw' (fun i s hi => hp i s hi (hL.1.2 i (hlk i s hi)))⟩) l.length (Array.replicate l.toArray.size false) a { w with drawn := w.drawn + 1 } σ0 (le_of ((Below.refl _ _).drew)) (fun i s hi => hσ0 i s hi) (fun i s hi hl => by rw [getD_replicate_false] at hl; cases hl) (fun σ hσ _ => by
      exact headN_lex (P := P) (md := .any) (C := fun w' => Le w w') (sp := sp) (σ := σ) (E := fun listed => (Region.ready .any l.toArray listed).isEmpty) hsel
        (fun listed inv i hi hun j hj => by
          obtain ⟨_, o, ho, _⟩ := mem_ready.1 hj
          have := (Array.getElem?_eq_some_iff.1 ho).1
          simpa using this)
        (fun listed hE j hj => by rw [List.isEmpty_iff.1 hE] at hj; cases hj) (Region.lexFrom .any l.toArray)
        (fun listed hk => hk)
        (fun f k listed hk => by
          simp only [Region.lexFrom, Bool.and_eq_true] at hk
          exact ⟨by simpa using hk.1.1, hk.1.2, hk.2⟩)
        l 0 (Array.replicate l.toArray.size false) a (fun j hj => by simp) (by simp) inv0 (fun j hj => by omega) (by simpa using hlex) (h σ hσ))
  simpa using this
end

section
variable {P : Program} {ops : Array Oper} {sp : List (Nat × Sp)} {σ : Nat → Value} {Q : Act → Prop} {W : World}
/-- some operations that are no calls, read as ever -/
theorem wpN_quiet {C : World → Prop} : ∀ (l : List Oper) (rest : List Oper) (i : Nat) (a : Act), l.all (fun o => plain o.op) = true → (∀ j, i ≤ j → j < i + l.length → sp.lookup j = none) →
    wpQuiet P ops C (fun a' => wpN P ops C sp σ Q rest (i + l.length) a') l a → wpN P ops C sp σ Q (l ++ rest) i a
  | [], rest, i, a, _, _, h => h
  | o :: l, rest, i, a, hp, hn, h => by
    simp only [List.all_cons, Bool.and_eq_true] at hp
    have hi := hn i (Nat.le_refl _) (by simp)
    have hn' : ∀ j, i + 1 ≤ j → j < i + 1 + l.length → sp.lookup j = none := fun j h1 h2 => hn j (by omega) (by simp; omega)
    have hlen : i + (o :: l).length = i + 1 + l.length := by simp; omega
    rw [hlen] at h
    unfold wpQuiet at h
    by_cases hw : Region.wanted o (yielded ops a.tmps) = true
    · rw [if_pos hw] at h
      obtain ⟨v, hq, hK⟩ := h
      exact ⟨v, by unfold NY; rw [hi]; exact Or.inl ⟨hw, hp.1, hq⟩, wpN_quiet l rest (i + 1) _ hp.2 hn' hK⟩
    · rw [if_neg hw] at h
      exact ⟨undef, by unfold NY; rw [hi]; exact Or.inr ⟨by simpa using hw, rfl⟩, wpN_quiet l rest (i + 1) _ hp.2 hn' h⟩
theorem wpN_take {C : World → Prop} (k : Nat) {l : List Oper} {i : Nat} {a : Act} (hk : Nat.ble k l.length = true) (hp : (l.take k).all (fun o => plain o.op) = true) (hn : (List.range' i k).all (fun j => (sp.lookup j).isNone) = true)
    (h : wpQuiet P ops C (fun a' => wpN P ops C sp σ Q (l.drop k) (i + k) a') (l.take k) a) : wpN P ops C sp σ Q l i a := by
  have hk' : k ≤ l.length := Nat.le_of_ble_eq_true hk
  have hl : (l.take k).length = k := by simp; omega
  rw [← List.take_append_drop k l]
  refine wpN_quiet (l.take k) (l.drop k) i a hp (fun j h1 h2 => ?_) (by rw [hl]; exact h)
  rw [hl] at h2
  have := List.all_eq_true.1 hn j (by simp [List.mem_range']; exact ⟨j - i, by omega, by omega⟩)
  simpa using this
/-- what an operation waits for: the post of special operation k -/
theorem dep_at {o : Oper} {w : World} (h : Dep sp σ o w) (k : Nat) {s : Sp} (hs : sp.lookup k = some s) (he : o.after.any (fun e => (e.on == k) && Region.binds .any e) = true) : s.post (σ k) w := by
  rw [← Array.any_toList, List.any_eq_true] at he
  obtain ⟨e, hm, h1⟩ := he
  simp only [Bool.and_eq_true, beq_iff_eq] at h1
  obtain ⟨rfl, hb⟩ := h1
  exact h e (by simpa using hm) hb s hs
theorem wpN_nil {C : World → Prop} {i : Nat} {a : Act} (h : Q a) : wpN P ops C sp σ Q [] i a := h
/-- an operation that is passed over -/
theorem wpN_skip {C : World → Prop} {o : Oper} {rest : List Oper} {i : Nat} {a : Act} (hi : sp.lookup i = none) (hw : Region.wanted o (yielded ops a.tmps) = false) (h : wpN P ops C sp σ Q rest (i + 1) (a.put o.dst undef)) : wpN P ops C sp σ Q (o :: rest) i a :=
  ⟨undef, by unfold NY; rw [hi]; exact Or.inr ⟨hw, rfl⟩, h⟩
/-- a special one -/
theorem wpN_sp {C : World → Prop} {o : Oper} {rest : List Oper} {i : Nat} {a : Act} (s : Sp) (hi : sp.lookup i = some s) (hw : Region.wanted o (yielded ops a.tmps) = true) (hs : spAt P C sp σ s o a) (h : wpN P ops C sp σ Q rest (i + 1) (a.put o.dst (σ i))) : wpN P ops C sp σ Q (o :: rest) i a :=
  ⟨σ i, by unfold NY; rw [hi]; exact ⟨hw, hs, rfl⟩, h⟩
/-- an allocation -/
theorem spAt_alloc {s : Sp} {o : Oper} {a : Act} {ty : TypeId} (cs : Array Value) (hrun : ∀ w : World, (execOp a.eval o).run P w = .ok (.value (.pointer (some ⟨w.heap.size, 0, none⟩))) (w.alloc (.cells cs ty)))
    (h1 : ∀ g, s.is (.pointer (some ⟨g, 0, none⟩))) (h2 : ∀ w, Le W w → s.post (.pointer (some ⟨w.heap.size, 0, none⟩)) (w.alloc (.cells cs ty))) : spAt P (fun w' => ∃ p : Ext, w' = ext W p) sp σ s o a := by
  rintro w hw _
  rw [hrun]
  exact ⟨le_alloc _ _, h1 _, h2 w hw⟩
/-- a call -/
theorem spAt_call {s : Sp} {o : Oper} {a : Act} {f : FuncId} {args : Array Value} (hrun : ∀ w : World, (execOp a.eval o).run P w = .ok (.enter f args) w)
    (h : ∀ w, Le W w → Dep sp σ o w → Calls P f args w (fun e w'' => ∃ v, e = .returned v ∧ Below w.heap.size w w'' ∧ s.is v ∧ s.post v w'')) : spAt P (fun w' => ∃ p : Ext, w' = ext W p) sp σ s o a := by
  rintro w hw hd
  rw [hrun]
  exact ⟨rfl, (h w hw hd).mono fun e w'' ⟨v, h1, h2, h3⟩ => ⟨v, h1, le_of h2, h3⟩⟩
end
theorem _root_.Go.Proofs.Ytfadhgbhdoddpaa.Mem.Blk.all {w : World} {g : Nat} {t : TypeId} {cs : Array Value} (h : Blk w g t cs) (i : Nat) : w.cell? ⟨g, i, none⟩ = cs[i]? := cell_of_row w g i cs t (0, 0) h
/-- cells put into a row -/
def putAt : Array Value → Nat → List Value → Array Value
  | cs, _, [] => cs
  | cs, o, v :: r => putAt (cs.setIfInBounds o v) (o + 1) r
theorem blk_setCells {g : Nat} {T : TypeId} : ∀ (vs : List Value) (o : Nat) (w : World) (cs : Array Value), Blk w g T cs → Blk (w.setCells g o vs) g T (putAt cs o vs)
  | [], _, _, _, h => h
  | v :: r, o, _, cs, h => blk_setCells r (o + 1) _ (cs.setIfInBounds o v) (h.set_ o v)
theorem below_setCells {B g : Nat} (hg : B ≤ g) : ∀ (vs : List Value) (o : Nat) (u w : World), Below B u w → Below B u (w.setCells g o vs)
  | [], _, _, _, h => h
  | v :: r, o, u, _, h => below_setCells hg r (o + 1) u _ (h.setCell (p := ⟨g, o, none⟩) hg v)
theorem only_setCells {g : Nat} : ∀ (vs : List Value) (o : Nat) (u w : World), u.grownBy w (some g) → u.grownBy (w.setCells g o vs) (some g)
  | [], _, _, _, h => h
  | v :: r, o, u, _, h => only_setCells r (o + 1) u _ (only_set h o v)
theorem size_setCells {g : Nat} : ∀ (vs : List Value) (o : Nat) (w : World), (w.setCells g o vs).heap.size = w.heap.size
  | [], _, _ => rfl
  | v :: r, o, w => by rw [World.setCells, size_setCells r]; simp [World.setCell]
/-- a store into a block: the row whole -/
theorem wpList_store_blk {P : Program} {ops : Array Oper} {rest : List Oper} {op : Oper} {a : Act} {w : World} {Q : Exit → Act → World → Prop} {g o : Nat} {T : TypeId} {cs vs cs' : Array Value} (hgd : op.guard = none) (ty : TypeId) (x y : Operand) (ho : op.op = .store ty x y)
    (hx : a.eval x = .pointer (some ⟨g, o, none⟩)) (hy : a.eval y = .agg vs) (hB : Blk w g T cs) (hcs : putAt cs o vs.toList = cs') (hfit : Nat.ble (o + vs.size) cs.size = true)
    (hi : (P.info? ty).map (·.size) = some vs.size) (h1 : vs.all (·.oneCell') = true)
    (h : ∀ W', Blk W' g T cs' → w.grownBy W' (some g) → W'.heap.size = w.heap.size → wpList P ops Q rest (a.put op.dst undef) W') : wpList P ops Q (op :: rest) a w :=
  wpList_store_mid hgd ty x y ho g o vs hx hy (fun j hj => by
      have hlt : o + j < cs.size := by have := Nat.le_of_ble_eq_true hfit; omega
      exact ⟨by rw [Blk.cell hB (o + j) (Array.getElem?_eq_getElem hlt)]; rfl, Blk.frozen hB (o + j)⟩) hi h1
    (h _ (hcs ▸ blk_setCells vs.toList o w cs hB) (only_setCells _ _ _ _ (only_refl w _)) (size_setCells _ _ _))
/-- the same, of a row in memory that is stored into in the walk: the world is nested, but reads so -/
theorem row_set {W : World} {g : Nat} {T : TypeId} {cs : Array Value} (vs : List Value) (h : Blk W g T cs) : Blk (W.setCells g 0 vs) g T (putAt cs 0 vs) ∧ W.grownBy (W.setCells g 0 vs) (some g) :=
  ⟨blk_setCells vs 0 W cs h, only_setCells _ _ _ _ (only_refl W _)⟩
/-- some blocks, known whole, and nothing below turned -/
structure Bk (w W : World) (L : List (Nat × TypeId × Array Value)) : Prop where
  be : Below w.heap.size w W
  all : ∀ x ∈ L, Blk W x.1 x.2.1 x.2.2
section
variable {w W W' : World} {L : List (Nat × TypeId × Array Value)}
theorem bk_nil (w : World) : Bk w w [] := ⟨Below.refl _ _, fun _ h => by cases h⟩
theorem Bk.below (h : Bk w W L) (hb : Below W.heap.size W W') : Bk w W' L := ⟨h.be.trans (hb.mono h.be.size), fun x hx => Blk.below (h.all x hx) hb (Blk.lt (h.all x hx))⟩
theorem Bk.belowB (h : Bk w W L) {B : Nat} (hw : w.heap.size ≤ B) (hL : L.all (fun x => Nat.blt x.1 B) = true) (hb : Below B W W') : Bk w W' L := ⟨h.be.trans (hb.mono hw), fun x hx => Blk.below (h.all x hx) hb (Nat.le_of_ble_eq_true (List.all_eq_true.1 hL x hx))⟩
theorem Bk.al (h : Bk w W L) (o : Obj) : Bk w (W.alloc o) L := h.below ((Below.refl _ _).alloc (Nat.le_refl _) _)
theorem Bk.px (h : Bk w W L) (p : Ext) : Bk w (ext W p) L := h.below (below_ext W p)
theorem Bk.add (h : Bk w W L) {g : Nat} {T : TypeId} {cs : Array Value} (q : Blk W g T cs) : Bk w W ((g, T, cs) :: L) := ⟨h.be, fun x hx => by
  rcases List.mem_cons.1 hx with rfl | hx
  · exact q
  · exact h.all x hx⟩
theorem Bk.new (h : Bk w W L) (T : TypeId) (cs : Array Value) : Bk w (W.alloc (.cells cs T)) ((W.heap.size, T, cs) :: L) := (h.al _).add (Blk.new W T cs)
theorem Bk.newAt (h : Bk w W L) (n : Nat) (T : TypeId) (cs : Array Value) (hn : n = W.heap.size) : Bk w (W.alloc (.cells cs T)) ((n, T, cs) :: L) := by rw [hn]; exact h.new T cs
theorem bk1 (w : World) (T : TypeId) (cs : Array Value) : Bk w (w.alloc (.cells cs T)) [(w.heap.size, T, cs)] := (bk_nil w).new T cs
theorem bk2 (w : World) (T T' : TypeId) (cs cs' : Array Value) : Bk w ((w.alloc (.cells cs T)).alloc (.cells cs' T')) [(w.heap.size + 1, T', cs'), (w.heap.size, T, cs)] := (bk1 w T cs).newAt (w.heap.size + 1) T' cs' (by simp)
theorem bk3 (w : World) (T T' T'' : TypeId) (cs cs' cs'' : Array Value) : Bk w (((w.alloc (.cells cs T)).alloc (.cells cs' T')).alloc (.cells cs'' T'')) [(w.heap.size + 1 + 1, T'', cs''), (w.heap.size + 1, T', cs'), (w.heap.size, T, cs)] := (bk2 w T T' cs cs').newAt (w.heap.size + 1 + 1) T'' cs'' (by simp)
/-- a box that is laid behind a call -/
theorem Bk.box (h : Bk w W L) (hb : Below W.heap.size W W') (T : TypeId) (cs : Array Value) : Bk w (W'.alloc (.cells cs T)) ((W'.heap.size, T, cs) :: L) := (h.below hb).new T cs
theorem Bk.nth (h : Bk w W L) (k : Nat) {x : Nat × TypeId × Array Value} (hk : L[k]? = some x) : Blk W x.1 x.2.1 x.2.2 := h.all x (List.mem_of_getElem? hk)
theorem Bk.lt (h : Bk w W L) (k : Nat) {x : Nat × TypeId × Array Value} (hk : L[k]? = some x) : x.1 < W.heap.size := Blk.lt (h.nth k hk)
theorem Bk.size (h : Bk w W L) : w.heap.size ≤ W.heap.size := h.be.size
end
/-- at the end: of the world only this is known -/
theorem bp_gen {P : Program} {f : Func} {R : Ending → World → Prop} {e : Exit} {a : Act} {w : World} (F : World → Prop) (hF : F w) (h : ∀ V, F V → bodyPost P f R e a V) : bodyPost P f R e a w := h w hF
/-- lists of special operations -/
theorem lk_nil {R : Nat → Sp → Prop} : ∀ i s, ([] : List (Nat × Sp)).lookup i = some s → R i s := fun _ _ h => by cases h
theorem lk_cons {R : Nat → Sp → Prop} {k : Nat} {x : Sp} {t : List (Nat × Sp)} (hx : R k x) (ht : ∀ i s, t.lookup i = some s → R i s) : ∀ i s, ((k, x) :: t).lookup i = some s → R i s := fun i s h => by
  rw [List.lookup_cons] at h
  split at h
  · rename_i e
    have e' : i = k := by simpa using e
    injection h with h
    rw [e', ← h]; exact hx
  · exact ht i s h
end Go.Proofs.Ytfadhgbhdoddpaa.Rg
