/- Slices of any element type, read and grown: a list of elements behind a slice; 'append' of one element, of a whole slice. -/
import Derived.Test.YtfadhgbhdoddpaaRg
import Derived.Deep.AppendLies
namespace Go.Proofs.Ytfadhgbhdoddpaa.Ap
open Go Go.RowKit Go.Proofs.Ytfadhgbhdoddpaa.Mem Go.Proofs.Ytfadhgbhdoddpaa.Q Go.Proofs.Ytfadhgbhdoddpaa.Rg

/-- where element i begins -/
def off (sz i : Nat) : Nat := if sz = 1 then i else i * sz
theorem off_eq (sz i : Nat) : off sz i = i * sz := by unfold off; split <;> simp_all
section
variable {α : Type}
/-- the slice at a holds the elements L (en: an element's cells) -/
def Seq (en : α → List Value) (sz : Nat) (w : World) (a : Option Addr) (L : List α) : Prop := ∀ i x, L[i]? = some x → ∃ b o, a = some ⟨b, o, none⟩ ∧ b < w.heap.size ∧
  ∀ j u, (en x)[j]? = some u → w.cell? ⟨b, o + off sz i + j, none⟩ = some u
theorem Seq.below {en : α → List Value} {sz : Nat} {w w' : World} {a : Option Addr} {L : List α} {B : Nat} (h : Seq en sz w a L) (hB : w.heap.size ≤ B) (hb : Below B w w') : Seq en sz w' a L := fun i x hi => by
  obtain ⟨b, o, e, hlt, hc⟩ := h i x hi
  have hl : b < B := Nat.lt_of_lt_of_le hlt hB
  exact ⟨b, o, e, Nat.lt_of_lt_of_le hlt hb.size, fun j u hj => (hb.cell (p := ⟨b, _, none⟩) hl).trans (hc j u hj)⟩
theorem Seq.nil {en : α → List Value} {sz : Nat} {w : World} {a : Option Addr} : Seq en sz w a [] := fun i x hi => by simp at hi
def flat (en : α → List Value) (L : List α) : List Value := L.flatMap en
theorem flat_snoc {en : α → List Value} {L : List α} {k : Nat} {x : α} (h : L[k]? = some x) : flat en (L.take (k + 1)) = flat en (L.take k) ++ en x := by rw [List.take_add_one, h]; simp [flat]
theorem flat_app {en : α → List Value} {L M : List α} : flat en (L ++ M) = flat en L ++ flat en M := by simp [flat]
theorem flat_length {en : α → List Value} {sz : Nat} (he : ∀ x, (en x).length = sz) (L : List α) : (flat en L).length = L.length * sz := by
  induction L with
  | nil => simp [flat]
  | cons x t ih => simp only [flat, List.flatMap_cons, List.length_append, List.length_cons, he] at ih ⊢; rw [ih, Nat.add_mul]; omega
theorem flat_get {en : α → List Value} {sz : Nat} (he : ∀ x, (en x).length = sz) {L : List α} {i : Nat} {x : α} (hi : L[i]? = some x) {j : Nat} {u : Value} (hj : (en x)[j]? = some u) : (flat en L)[i * sz + j]? = some u := by
  have hjl : j < sz := by rw [← he x]; exact (List.getElem?_eq_some_iff.1 hj).1
  induction L generalizing i with
  | nil => simp at hi
  | cons y t ih =>
    cases i with
    | zero =>
      simp at hi
      subst hi
      simp only [flat, List.flatMap_cons, Nat.zero_mul, Nat.zero_add]
      rw [List.getElem?_append_left (by rw [he]; exact hjl)]
      exact hj
    | succ i =>
      simp at hi
      have := ih hi
      simp only [flat, List.flatMap_cons] at this ⊢
      rw [List.getElem?_append_right (by rw [he, Nat.add_mul]; omega), he, show (i + 1) * sz + j - sz = i * sz + j by rw [Nat.add_mul]; omega]
      exact this
theorem own_seq {en : α → List Value} {sz : Nat} (he : ∀ x, (en x).length = sz) {w : World} {B : Nat} {e : TypeId} {a : Option Addr} {n c : Nat} {L : List α} (h : w.ownsRow B e sz (.slice a n c) n (flat en L)) (hn : L.length = n) : Seq en sz w a L := fun i x hi => by
  have hil : i < L.length := (List.getElem?_eq_some_iff.1 hi).1
  rcases h.2 with ⟨_, e0⟩ | ⟨g, cap, cur, e1, _, hg, _⟩
  · omega
  · simp only [Value.slice.injEq, true_and] at e1
    obtain ⟨rfl, rfl⟩ := e1
    refine ⟨g, 0, rfl, (h.lt g rfl).2, fun j u hj => ?_⟩
    have hjl : j < sz := by rw [← he x]; exact (List.getElem?_eq_some_iff.1 hj).1
    have hlt : i * sz + j < n * sz := by
      have : (i + 1) * sz ≤ n * sz := Nat.mul_le_mul_right sz (by omega)
      rw [Nat.add_mul] at this; omega
    rw [off_eq, Nat.zero_add, h.cellAt (i * sz + j) hlt]
    exact flat_get he hi hj
/-- a slice laid anew, of literal elements -/
theorem seq_blk {en : α → List Value} {sz : Nat} (he : ∀ x, (en x).length = sz) {w : World} {g : Nat} {t : TypeId} {L : List α} {cs : Array Value} (h : Blk w g t cs) (hc : cs.toList = flat en L) : Seq en sz w (some ⟨g, 0, none⟩) L := fun i x hi =>
  ⟨g, 0, rfl, Blk.lt h, fun j u hj => by
    rw [off_eq, Nat.zero_add]
    refine Blk.cell h _ ?_
    rw [← Array.getElem?_toList, hc]
    exact flat_get he hi hj⟩
end
theorem own_form {w : World} {B n sz : Nat} {e : TypeId} {v : Value} {xs : List Value} (h : w.ownsRow B e sz v n xs) : ∃ a c, v = .slice a n c := by
  rcases h.2 with ⟨e1, e0⟩ | ⟨g, cap, cur, e1, _⟩
  · exact ⟨none, 0, by rw [e1, e0]⟩
  · exact ⟨_, _, e1⟩
theorem own_below {w w' : World} {B n sz : Nat} {e : TypeId} {v : Value} {xs : List Value} (h : w.ownsRow B e sz v n xs) (hb : Below w.heap.size w w') : w'.ownsRow B e sz v n xs :=
  h.kept (only_of_below hb none) (by cases hv : v.ownBlock <;> simp)

/-- what is known of an element's type -/
structure Elem (P : Program) (t e : TypeId) (sz bytes : Nat) : Prop where
  t : P.underlying t = some (.slice e)
  i : ∃ i z, P.info? e = some i ∧ i.zero = some z ∧ i.size = sz ∧ i.bytes = bytes ∧ z.cells.size = sz
  pos : 0 < sz
theorem elem_of {P : Program} {t e : TypeId} {sz bytes : Nat} {z : Value} (ht : P.underlying t = some (.slice e)) (h : (P.info? e).map (fun i => (i.zero, i.size, i.bytes)) = some (some z, sz, bytes)) (hz : z.cells.size = sz) (hp : 0 < sz) : Elem P t e sz bytes := by
  refine ⟨ht, ?_, hp⟩
  cases hi : P.info? e with
  | none => rw [hi] at h; cases h
  | some i =>
    rw [hi] at h
    simp only [Option.map_some, Option.some.injEq, Prod.mk.injEq] at h
    exact ⟨i, z, rfl, h.1, h.2.1, h.2.2, hz⟩

section
variable {P : Program} {ops : Array Oper} {rest : List Oper} {o : Oper} {a : Act} {w : World} {Q : Exit → Act → World → Prop}
/-- 'append(v, ..)' of the elements that lie at an address -/
theorem wpList_app {t e : TypeId} {sz bytes base : Nat} (hgd : o.guard = none) (s x : Operand) (ho : o.op = .call { callee := .builtin .append, args := #[s, x], argTypes := #[t, t] }) (hE : Elem P t e sz bytes)
    {v : Value} {n m c : Nat} {xs news : List Value} {ad : Addr} (hs : a.eval s = v) (hown : w.ownsRow base e sz v n xs) (hx : a.eval x = .slice (some ad) m c) (hl : news.length = m * sz) (hnews : ∀ j u, news[j]? = some u → w.cell? (ad.add j) = some u) (h1 : ∀ u ∈ news, u.oneCell' = true)
    (hn : (n + m) * bytes ≤ 140737488355328) (hn2 : n + m ≤ maxLen) (hbase : base ≤ w.heap.size)
    (h : ∀ v' w', w'.ownsRow base e sz v' (n + m) (xs ++ news) → Below base w w' → wpList P ops Q rest (a.put o.dst v') w') : wpList P ops Q (o :: rest) a w := by
  obtain ⟨i, z, hi, hz, hsz, hby, hzs⟩ := hE.i
  obtain ⟨v', w', hr, h2, h3, _⟩ := run_append_own_at (P := P) w base t o.type e i z sz bytes hE.t hi hz hsz hby hzs hE.pos v n xs hown ad m c news hl hnews h1 hn2 hn hbase
  refine wpList_plain hgd fun _ hK => ?_
  unfold Oper.wp execOp
  simp only [ho, resolve, invoke, builtin, Sem.run_bind, Sem.run_pure, Result.andThen_ok, List.map_toArray, List.map_cons, List.map_nil, hs, hx, hr]
  exact hK _ _ (h v' w' h2 ((Below.refl _ _).grown h3 hbase (fun r er => (hown.lt r er).1)))
end
/-- cells of a block, as they are to be appended -/
theorem blk_news {w : World} {g : Nat} {t : TypeId} {cs : Array Value} (h : Blk w g t cs) : ∀ j u, cs.toList[j]? = some u → w.cell? ((⟨g, 0, none⟩ : Addr).add j) = some u := World.news_of_block h
theorem seq_news {α : Type} {en : α → List Value} {sz : Nat} (he : ∀ x, (en x).length = sz) {w : World} {b o : Nat} {L : List α} (h : Seq en sz w (some ⟨b, o, none⟩) L) : ∀ j u, (flat en L)[j]? = some u → w.cell? ((⟨b, o, none⟩ : Addr).add j) = some u := fun j u hj => by
  have hadd : (⟨b, o, none⟩ : Addr).add j = ⟨b, o + j, none⟩ := by unfold Addr.add; split <;> simp_all
  rw [hadd]
  have hlt := (List.getElem?_eq_some_iff.1 hj).1
  rw [flat_length he] at hlt
  have hsz : 0 < sz := by
    rcases Nat.eq_zero_or_pos sz with h0 | h0
    · rw [h0] at hlt; omega
    · exact h0
  have hi : j / sz < L.length := (Nat.div_lt_iff_lt_mul hsz).2 hlt
  have hx : L[j / sz]? = some L[j / sz] := List.getElem?_eq_getElem hi
  obtain ⟨b', o', e, _, hc⟩ := h (j / sz) _ hx
  cases e
  have hmod : j % sz < (en L[j / sz]).length := by rw [he]; exact Nat.mod_lt _ hsz
  have hu := flat_get he hx (List.getElem?_eq_getElem hmod)
  have hj2 : j / sz * sz + j % sz = j := by rw [Nat.mul_comm]; exact Nat.div_add_mod j sz
  rw [hj2, hj] at hu
  injection hu with hu
  have := hc (j % sz) _ (List.getElem?_eq_getElem hmod)
  rw [off_eq, Nat.add_assoc, hj2] at this
  rw [this, hu]
section
variable {P : Program} {ops : Array Oper} {rest : List Oper} {o : Oper} {a : Act} {w : World} {Q : Exit → Act → World → Prop}
/-- 'append(v, l...)' of a whole slice, which may be nil -/
theorem wpList_appS {α : Type} {en : α → List Value} {t e : TypeId} {sz bytes base : Nat} (hgd : o.guard = none) (s x : Operand) (ho : o.op = .call { callee := .builtin .append, args := #[s, x], argTypes := #[t, t] }) (he : ∀ x, (en x).length = sz) (h1 : ∀ x, ∀ u ∈ en x, u.oneCell' = true) (hE : Elem P t e sz bytes)
    {v : Value} {A L : List α} {n m c : Nat} {ad : Option Addr} (hs : a.eval s = v) (hA : A.length = n) (hown : w.ownsRow base e sz v n (flat en A)) (hx : a.eval x = .slice ad m c) (hm : L.length = m) (hnil : ad = none → m = 0 ∧ c = 0) (hL : Seq en sz w ad L) (hform : ∀ a', ad = some a' → ∃ b o, a' = ⟨b, o, none⟩)
    (hn : (n + m) * bytes ≤ 140737488355328) (hn2 : n + m ≤ maxLen) (hbase : base ≤ w.heap.size)
    (h : ∀ v' w', w'.ownsRow base e sz v' (n + m) (flat en (A ++ L)) → Below base w w' → wpList P ops Q rest (a.put o.dst v') w') : wpList P ops Q (o :: rest) a w := by
  cases ad with
  | none =>
    obtain ⟨rfl, rfl⟩ := hnil rfl
    obtain rfl : L = [] := List.eq_nil_of_length_eq_zero hm
    obtain ⟨i, z, hi, hz, hsz, hby, hzs⟩ := hE.i
    have hrun := run_append_owned_none (P := P) (w := w) base t o.type e i sz hE.t hi v n _ hown
    refine wpList_plain hgd fun _ hK => ?_
    unfold Oper.wp execOp
    simp only [ho, resolve, invoke, builtin, Sem.run_bind, Sem.run_pure, Result.andThen_ok, List.map_toArray, List.map_cons, List.map_nil, hs, hx, hrun]
    exact hK _ _ (h v w (by rw [List.append_nil]; exact hown) (Below.refl _ _))
  | some a' =>
    obtain ⟨b, o', rfl⟩ := hform a' rfl
    subst hA hm
    refine wpList_app hgd s x ho hE hs hown hx (flat_length he L) (seq_news he hL) (fun u hu => ?_) hn hn2 hbase (fun v' w' h2 h3 => h v' w' (by rw [flat_app]; exact h2) h3)
    simp only [flat, List.mem_flatMap] at hu
    obtain ⟨y, _, hu⟩ := hu
    exact h1 y u hu
end
end Go.Proofs.Ytfadhgbhdoddpaa.Ap
namespace Go.Proofs.Ytfadhgbhdoddpaa.Rg
open Go Go.RowKit Go.Proofs.Ytfadhgbhdoddpaa.Mem Go.Proofs.Ytfadhgbhdoddpaa.Q
/-- something laid anew: a box, a slice's row -/
theorem spAt_new {P : Program} {W : World} {sp : List (Nat × Sp)} {σ : Nat → Value} {s : Sp} {o : Oper} {a : Act} (v : Nat → Value) (ob : Obj) (hrun : ∀ w : World, (execOp a.eval o).run P w = .ok (.value (v w.heap.size)) (w.alloc ob))
    (h1 : ∀ g, s.is (v g)) (h2 : ∀ w, Le W w → s.post (v w.heap.size) (w.alloc ob)) : spAt P (fun w' => ∃ p : Ext, w' = ext W p) sp σ s o a := by
  rintro w hw _
  rw [hrun]
  exact ⟨le_alloc _ _, h1 _, h2 w hw⟩
/-- a block laid anew, of these cells, its first cell's slice -/
def newS (n : Nat) (T : TypeId) (cs : Array Value) (B : Nat) : Sp := ⟨fun _ => True, fun v W => ∃ g, v = .slice (some ⟨g, 0, none⟩) n n ∧ B ≤ g ∧ Blk W g T cs⟩
/-- its first cell's address -/
def newB (T : TypeId) (cs : Array Value) (B : Nat) : Sp := ⟨fun _ => True, fun v W => ∃ g, v = .pointer (some ⟨g, 0, none⟩) ∧ B ≤ g ∧ Blk W g T cs⟩
/-- a value that is known -/
def val (u : Value) : Sp := ⟨fun v => v = u, fun _ _ => True⟩
theorem newS_mono {n : Nat} {T : TypeId} {cs : Array Value} {B : Nat} : ∀ v w w', (newS n T cs B).post v w → Le w w' → (newS n T cs B).post v w' := fun _ _ _ ⟨g, h1, h2, h3⟩ hle => ⟨g, h1, h2, Blk.below h3 (le_below hle) (Blk.lt h3)⟩
theorem newB_mono {T : TypeId} {cs : Array Value} {B : Nat} : ∀ v w w', (newB T cs B).post v w → Le w w' → (newB T cs B).post v w' := fun _ _ _ ⟨g, h1, h2, h3⟩ hle => ⟨g, h1, h2, Blk.below h3 (le_below hle) (Blk.lt h3)⟩
theorem newS_inh {n : Nat} {T : TypeId} {cs : Array Value} {B : Nat} : ∃ v, (newS n T cs B).is v := ⟨undef, trivial⟩
theorem newB_inh {T : TypeId} {cs : Array Value} {B : Nat} : ∃ v, (newB T cs B).is v := ⟨undef, trivial⟩
theorem val_inh {u : Value} : ∃ v, (val u).is v := ⟨u, rfl⟩
theorem val_mono {u : Value} : ∀ v w w', (val u).post v w → Le w w' → (val u).post v w' := fun _ _ _ _ _ => trivial
theorem spAt_newS {P : Program} {W : World} {sp : List (Nat × Sp)} {σ : Nat → Value} {o : Oper} {a : Act} (n : Nat) (T : TypeId) (cs : Array Value) {B : Nat} (hB : B ≤ W.heap.size) (hrun : ∀ w : World, (execOp a.eval o).run P w = .ok (.value (.slice (some ⟨w.heap.size, 0, none⟩) n n)) (w.alloc (.cells cs T))) :
    spAt P (fun w' => ∃ p : Ext, w' = ext W p) sp σ (newS n T cs B) o a :=
  spAt_new (fun g => .slice (some ⟨g, 0, none⟩) n n) (.cells cs T) hrun (fun _ => trivial) (fun _ hw => ⟨_, rfl, Nat.le_trans hB (le_below hw).size, Blk.new _ _ _⟩)
theorem spAt_newB {P : Program} {W : World} {sp : List (Nat × Sp)} {σ : Nat → Value} {o : Oper} {a : Act} (T : TypeId) (cs : Array Value) {B : Nat} (hB : B ≤ W.heap.size) (hrun : ∀ w : World, (execOp a.eval o).run P w = .ok (.value (.pointer (some ⟨w.heap.size, 0, none⟩))) (w.alloc (.cells cs T))) :
    spAt P (fun w' => ∃ p : Ext, w' = ext W p) sp σ (newB T cs B) o a :=
  spAt_new (fun g => .pointer (some ⟨g, 0, none⟩)) (.cells cs T) hrun (fun _ => trivial) (fun _ hw => ⟨_, rfl, Nat.le_trans hB (le_below hw).size, Blk.new _ _ _⟩)
/-- an operation that reads what another special one has laid -/
theorem spAt_read {P : Program} {W : World} {sp : List (Nat × Sp)} {σ : Nat → Value} {o : Oper} {a : Act} {u : Value} (h : ∀ p : Ext, Dep sp σ o (ext W p) → (execOp a.eval o).run P (ext W p) = .ok (.value u) (ext W p)) :
    spAt P (fun w' => ∃ p : Ext, w' = ext W p) sp σ (val u) o a := by
  rintro w ⟨p, rfl⟩ hd
  rw [h p hd]
  exact ⟨le_refl _, rfl, trivial⟩
/-- a call whose value is known -/
theorem spAt_val {P : Program} {W : World} {sp : List (Nat × Sp)} {σ : Nat → Value} {o : Oper} {a : Act} {u : Value} {f : FuncId} {args : Array Value} (hrun : ∀ w : World, (execOp a.eval o).run P w = .ok (.enter f args) w)
    (h : ∀ p : Ext, Dep sp σ o (ext W p) → Calls P f args (ext W p) (fun e w'' => e = .returned u ∧ Below (ext W p).heap.size (ext W p) w'')) : spAt P (fun w' => ∃ p : Ext, w' = ext W p) sp σ (val u) o a :=
  spAt_call hrun (fun _ ⟨p, hp⟩ hd => by subst hp; exact (h p hd).mono fun e w'' ⟨h1, h2⟩ => ⟨u, h1, h2, rfl, trivial⟩)
end Go.Proofs.Ytfadhgbhdoddpaa.Rg
