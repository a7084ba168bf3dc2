/- clarionlaw18.plain of an Int: the walk. -/
import Derived.Test.YtbceakdifklocaaDuE
import Derived.Test.YtbceakdifklocaaDwA
namespace Go.Proofs.Ytbceakdifklocaa.DwC
open Go Go.RowKit Go.Proofs.Ytbceakdifklocaa.Q Go.Proofs.Ytbceakdifklocaa.Mem Go.Proofs.Ytbceakdifklocaa.DwA Go.Proofs.Ytbceakdifklocaa.DsA Go.Proofs.Ytbceakdifklocaa.DsB Go.Proofs.Ytbceakdifklocaa.DsC Go.Proofs.Ytbceakdifklocaa.DsD Go.Proofs.Ytbceakdifklocaa.DsE Go.Proofs.Ytbceakdifklocaa.DsP Go.Proofs.Ytbceakdifklocaa.DtF Go.Proofs.Ytbceakdifklocaa.DuA Go.Proofs.Ytbceakdifklocaa.DuB Go.Proofs.Ytbceakdifklocaa.DuC Go.Proofs.Ytbceakdifklocaa.DuD Go.Proofs.Ytbceakdifklocaa.DuE Go.Proofs.Ytbceakdifklocaa.Rg Go.Proofs.Ytbceakdifklocaa.Ap

theorem elemLR : Elem Try.prog 89 52 1 24 := elem_of Try.underlying89 (z := .slice none 0 0) (by kernel_rfl) rfl (by decide)
def FreshB (B : Nat) (a : Option Addr) : Prop := ∀ (b o : Nat), a = some ⟨b, o, none⟩ → B ≤ b
/-- the call of Plain, its value's row -/
def plS (n : Nat) (L : List Dc) (B : Nat) : Sp := ⟨fun v => ∃ a c, v = .slice a n c, fun v W => ∃ a c, v = .slice a n c ∧ Ds W a L ∧ FreshB B a⟩
def rowS (n : Nat) (L : List Dc) (B : Nat) : Sp := ⟨fun _ => True, fun v W => ∃ g a c, v = .slice (some ⟨g, 0, none⟩) 1 1 ∧ Blk W g 52 #[.slice a n c] ∧ Ds W a L ∧ FreshB B a⟩
theorem plS_inh {n : Nat} {L : List Dc} {B : Nat} : ∃ v, (plS n L B).is v := ⟨.slice none n 0, none, 0, rfl⟩
theorem rowS_inh {n : Nat} {L : List Dc} {B : Nat} : ∃ v, (rowS n L B).is v := ⟨undef, trivial⟩
theorem plS_mono {n : Nat} {L : List Dc} {B : Nat} : ∀ v w w', (plS n L B).post v w → Le w w' → (plS n L B).post v w' := fun _ _ _ ⟨a, c, h1, h2, h3⟩ hle => ⟨a, c, h1, h2.below (Nat.le_refl _) (le_below hle), h3⟩
theorem rowS_mono {n : Nat} {L : List Dc} {B : Nat} : ∀ v w w', (rowS n L B).post v w → Le w w' → (rowS n L B).post v w' := fun _ _ _ ⟨g, a, c, h1, h2, h3, h4⟩ hle => ⟨g, a, c, h1, Blk.below h2 (le_below hle) (Blk.lt h2), h3.below (Nat.le_refl _) (le_below hle), h4⟩
theorem spAt_pl {W : World} {sp : List (Nat × Sp)} {σ : Nat → Value} {o : Oper} {A : Act} (a : Option Addr) (c n : Nat) (L : List Dc) (hn : L.length = n) (hl : n ≤ 1000000) (hL : Ds W a L) (hrun : ∀ w : World, (execOp A.eval o).run Try.prog w = .ok (.enter 21 #[.slice a n c]) w) :
    spAt Try.prog (fun w' => ∃ p : Ext, w' = ext W p) sp σ (plS n L W.heap.size) o A := by
  subst hn
  refine spAt_call hrun (fun w hw _ => (plain_new a c L w hl (hL.below (Nat.le_refl _) (le_below hw))).mono fun e w' ⟨a', c', he, ⟨hd, hf⟩, hb⟩ => ⟨_, he, hb, ⟨a', c', rfl⟩, a', c', rfl, hd, fun b o e => ?_⟩)
  have := hf b o e
  have := (le_below hw).size
  omega
theorem spAt_row {W : World} {sp : List (Nat × Sp)} {σ : Nat → Value} {o : Oper} {A : Act} {n B : Nat} {L : List Dc} (k : Nat) (hs : sp.lookup k = some (plS n L B)) (he : o.after.any (fun e => (e.on == k) && Region.binds .any e) = true)
    {xa : Option Addr} {xc : Nat} (hx : σ k = .slice xa n xc) (hrun : ∀ w : World, (execOp A.eval o).run Try.prog w = .ok (.value (.slice (some ⟨w.heap.size, 0, none⟩) 1 1)) (w.alloc (.cells #[.slice xa n xc] 52))) :
    spAt Try.prog (fun w' => ∃ p : Ext, w' = ext W p) sp σ (rowS n L B) o A := by
  rintro w hw hd
  obtain ⟨a, c, h1, h2, h3⟩ := dep_at hd k hs he
  rw [hx] at h1
  injection h1 with h1 h1' h1''
  subst h1 h1''
  rw [hrun]
  exact ⟨le_alloc _ _, trivial, _, _, _, rfl, Blk.new _ _ _, h2.below (Nat.le_refl _) (le_below (le_alloc _ _)), h3⟩
/-- what the walk knows -/
def Pc (w W : World) (tv : Array Value) (a p o : Int) (v : Value) (n : Nat) (VS : List Value) (AA : List (List Dc)) : Prop :=
  VS.length = n ∧ w.heap.size + 3 ≤ W.heap.size ∧ W.ownsRow (w.heap.size + 3) 52 1 v n (flat en1 VS) ∧ Lps W VS AA ∧ Away (w.heap.size + 3) W.heap.size v.ownBlock VS ∧
  Bk w W [(w.heap.size + 1 + 1, 91, #[.int .i64 a, .int .i64 p, .int .i64 o, v]), (w.heap.size + 1, 91, #[.int .i64 0, .int .i64 0, .int .i64 0, .slice none 0 0]), (w.heap.size, 82, tv)]
theorem pc_blk {w W V w8 : World} {tv : Array Value} {a p o : Int} {v : Value} {n : Nat} {VS : List Value} {AA : List (List Dc)} (h : Pc w W tv a p o v n VS AA) (hV : Below W.heap.size W V) (hgr : V.grownBy w8 v.ownBlock) :
    Bk w w8 [(w.heap.size + 1 + 1, 91, #[.int .i64 a, .int .i64 p, .int .i64 o, v]), (w.heap.size + 1, 91, #[.int .i64 0, .int .i64 0, .int .i64 0, .slice none 0 0]), (w.heap.size, 82, tv)] := by
  obtain ⟨h0, h1, h2, h3, h4, h5⟩ := h
  have hlt := h2.lt
  have hB := h5.below hV
  refine ⟨hB.be.trans (below_of_only hgr hB.size (fun k hk => ?_)), fun x hx => Blk.grown (hB.all x hx) hgr (fun e => ?_)⟩
  · have := (hlt k hk).1; omega
  · have := (hlt x.1 e.symm).1
    simp only [List.mem_cons, List.not_mem_nil, or_false] at hx
    rcases hx with rfl | rfl | rfl <;> simp at this <;> omega
theorem pc_step {w W V w8 : World} {tv : Array Value} {a p o : Int} {v v9 : Value} {n : Nat} {VS : List Value} {AA : List (List Dc)} {ta : Option Addr} {tc tn : Nat} {TL : List Dc} (h : Pc w W tv a p o v n VS AA) (hV : Below W.heap.size W V) (htn : TL.length = tn) (hd : Ds V ta TL) (hfr : FreshB W.heap.size ta)
    (hown : w8.ownsRow (w.heap.size + 3) 52 1 v9 (n + 1) (flat en1 VS ++ [.slice ta tn tc])) (hgr : V.grownBy w8 v.ownBlock) (hat : v9.ownBlock = v.ownBlock ∨ v9.ownBlock = some V.heap.size) :
    Pc w (w8.setCell ⟨w.heap.size + 1 + 1, 3, none⟩ v9) tv a p o v9 (n + 1) (VS ++ [.slice ta tn tc]) (AA ++ [TL]) := by
  have hbk := pc_blk h hV hgr
  obtain ⟨h0, h1, h2, h3, h4, h5⟩ := h
  subst h0 htn
  have z1 := hV.size
  have z2 := hgr.size
  have hlt := h2.lt
  have hps : Lps w8 VS AA := lps_grown (h3.below hV) hgr h4
  have hnd : ∀ (b o : Nat), ta = some ⟨b, o, none⟩ → v.ownBlock ≠ some b := fun b o e r => by
    have := hfr b o e
    have := (hlt b r).2
    omega
  have hset : w8.grownBy (w8.setCell ⟨w.heap.size + 1 + 1, 3, none⟩ v9) (some (w.heap.size + 1 + 1)) := only_set (only_refl _ _) 3 _
  have haw : Away (w.heap.size + 3) w8.heap.size v9.ownBlock (VS ++ [.slice ta TL.length tc]) := by
    intro i a n c hi hn b o e
    rcases Nat.lt_or_ge i VS.length with hl | hl
    · rw [List.getElem?_append_left hl] at hi
      obtain ⟨q1, q2, q3⟩ := h4 i a n c hi hn b o e
      refine ⟨q1, by omega, fun r => ?_⟩
      rcases hat with hat | hat
      · exact q3 (by rw [← hat]; exact r)
      · rw [hat] at r; injection r with r; omega
    · rw [List.getElem?_append_right hl] at hi
      have e0 : i - VS.length = 0 := by
        have := (List.getElem?_eq_some_iff.1 hi).1
        simp at this; omega
      rw [e0] at hi
      simp at hi
      obtain ⟨rfl, rfl, rfl⟩ := hi
      have q1 := hfr b o e
      have q2 : b < V.heap.size := by
        cases hTT : TL with
        | nil => rw [hTT] at hn; simp at hn
        | cons d M =>
          obtain ⟨b', o', e', hlt', _⟩ := hd 0 d (by rw [hTT]; rfl)
          rw [e] at e'; injection e' with e'; injection e' with e1 e2; omega
      refine ⟨by omega, by omega, fun r => ?_⟩
      rcases hat with hat | hat
      · exact hnd b o e (by rw [← hat]; exact r)
      · rw [hat] at r; injection r with r; omega
  have hps2 : Lps w8 (VS ++ [.slice ta TL.length tc]) (AA ++ [TL]) := lps_snoc hps ⟨ta, TL.length, tc, rfl, rfl, ds_grown hd hgr hnd⟩
  refine ⟨by simp, by have := hset.size; omega, ?_, ?_, ?_, ?_⟩
  · have : w8.ownsRow (w.heap.size + 3) 52 1 v9 (VS.length + 1) (flat en1 (VS ++ [.slice ta TL.length tc])) := by simpa [flat, en1] using hown
    refine this.kept hset ?_
    by_cases hr : v9.ownBlock = some (w.heap.size + 1 + 1)
    · have := (this.lt _ hr).1; omega
    · exact Or.inr hr
  · exact lps_grown hps2 hset (B := w.heap.size + 3) (S := w8.heap.size) (fun i a n c hi hn b o e => by
      obtain ⟨q1, q2, _⟩ := haw i a n c hi hn b o e
      exact ⟨q1, q2, fun e => by injection e with e; omega⟩)
  · intro i a n c hi hn b o e
    obtain ⟨q1, q2, q3⟩ := haw i a n c hi hn b o e
    exact ⟨q1, by have := hset.size; omega, q3⟩
  · refine ⟨hbk.be.trans (below_of_only hset hbk.size (fun k hk => by injection hk with hk; omega)), fun x hx => ?_⟩
    simp only [List.mem_cons, List.not_mem_nil, or_false] at hx
    rcases hx with rfl | rfl | rfl
    · exact Blk.set_ (hbk.nth 0 rfl) 3 _
    · exact Blk.grown (hbk.nth 1 rfl) hset (by simp <;> omega)
    · exact Blk.grown (hbk.nth 2 rfl) hset (by simp <;> omega)
theorem pc_end {w wr : World} {tv : Array Value} {a p o : Int} {x : Option Addr} {n cc : Nat} {VS : List Value} {AA : List (List Dc)} (h : Pc w wr tv a p o (.slice x n cc) n VS AA) (u0 u1 u2 u3 : Value) :
    Blk (wr.setCells (w.heap.size + 1) 0 [u0, u1, u2, u3]) (w.heap.size + 1) 91 #[u0, u1, u2, u3] ∧ Below w.heap.size w (wr.setCells (w.heap.size + 1) 0 [u0, u1, u2, u3]) ∧ Lps (wr.setCells (w.heap.size + 1) 0 [u0, u1, u2, u3]) VS AA ∧ Seq en1 1 (wr.setCells (w.heap.size + 1) 0 [u0, u1, u2, u3]) x VS := by
  obtain ⟨h0, h1, h2, h3, h4, h5⟩ := h
  have hset : wr.grownBy (wr.setCells (w.heap.size + 1) 0 [u0, u1, u2, u3]) (some (w.heap.size + 1)) := Go.Proofs.Ytbceakdifklocaa.Rg.only_setCells [u0, u1, u2, u3] 0 _ _ (only_refl _ _)
  refine ⟨(row_set [u0, u1, u2, u3] (h5.nth 1 rfl)).1, Go.Proofs.Ytbceakdifklocaa.Rg.below_setCells (by omega) [u0, u1, u2, u3] 0 w _ h5.be, lps_grown (B := w.heap.size + 3) (S := wr.heap.size) h3 hset (fun i a n c hi hn b o e => ?_), own_seq en1_len (h2.kept hset ?_) h0⟩
  · obtain ⟨q1, q2, _⟩ := h4 i a n c hi hn b o e
    exact ⟨q1, q2, fun e => by injection e with e; omega⟩
  · by_cases hr : (Value.slice x n cc).ownBlock = some (w.heap.size + 1)
    · have := (h2.lt _ hr).1; omega
    · exact Or.inr hr
set_option maxRecDepth 100000
set_option maxHeartbeats 3200000 in
theorem plainI_any (a p o : Int) (iv : Value) (ea : Option Addr) (n ec : Nat) (PS : List (Value × Value)) (LL : List (List Dc)) (w : World) (hn : PS.length = n) (hl : n ≤ 100000) (hps : Lps w (lvs iv PS) LL) (hsm : ∀ L ∈ LL, L.length ≤ 1000000) (hE : Seq en2 2 w ea PS) :
    Calls Try.prog 37 #[.agg #[.int .i64 a, .int .i64 p, .int .i64 o, iv, .slice ea n ec]] w fun e w' => (∃ x c VS, e = .returned (.agg #[.int .i64 a, .int .i64 p, .int .i64 o, .slice x (1 + 2 * n) c]) ∧ Seq en1 1 w' x VS ∧ Lps w' VS LL) ∧ Below w.heap.size w w' := by
  have HE := Lib.hid hE
  have HP := Lib.hid hps
  have HN := Lib.hid hn
  have HS := Lib.hid hsm
  have hlen := hps.1
  rw [lvs_len, hn] at hlen
  have HLEN := Lib.hid hlen
  obtain ⟨ia, im, ic, rfl⟩ := hps.sl (v := iv) (by simp [lvs])
  obtain ⟨tv, htv⟩ : ∃ tv : Array Value, tv = #[.int .i64 a, .int .i64 p, .int .i64 o, .slice ia im ic, .slice ea n ec] := ⟨_, rfl⟩
  have HTV := Lib.hid htv
  have HB := Lib.hid (bk3 w 82 91 91 #[.int .i64 a, .int .i64 p, .int .i64 o, .slice ia im ic, .slice ea n ec] #[.int .i64 0, .int .i64 0, .int .i64 0, .slice none 0 0] #[.int .i64 a, .int .i64 p, .int .i64 o, .slice none 0 0])
  clear hE hps hn hsm htv hlen
  go_enter Try.func37, Try.ntmps37
  go_upto_region 2 with fail
  obtain ⟨wr, hwr⟩ : ∃ wr, ((w.alloc (.cells #[.int .i64 a, .int .i64 p, .int .i64 o, .slice ia im ic, .slice ea n ec] 82)).alloc (.cells #[.int .i64 0, .int .i64 0, .int .i64 0, .slice none 0 0] 91)).alloc (.cells #[.int .i64 a, .int .i64 p, .int .i64 o, .slice none 0 0] 91) = wr := ⟨_, rfl⟩
  have hsz3 : w.heap.size + 3 ≤ wr.heap.size := by rw [← hwr]; simp
  rw [hwr] at HB ⊢
  have HC0 := Lib.hid (show Pc w wr tv a p o (.slice none 0 0) 0 [] [] from ⟨rfl, hsz3, World.ownsRow_nil _ _ _ _, ⟨rfl, fun i v L h => by simp at h⟩, fun i a n c h => by simp at h, by rw [HTV.out]; exact HB.out⟩)
  clear hwr
  have hL0 : 0 < LL.length := by have := HLEN.out; omega
  obtain ⟨L0, hL0⟩ : ∃ L, LL[0]? = some L := ⟨_, List.getElem?_eq_getElem hL0⟩
  obtain ⟨a0, n0, c0, e0, hn0, d0⟩ := HP.out.2 0 (.slice ia im ic) L0 rfl hL0
  obtain ⟨rfl, rfl, rfl⟩ : ia = a0 ∧ im = n0 ∧ ic = c0 := by simpa using e0
  have hl0 := HS.out _ (List.mem_of_getElem? hL0)
  have HT0 := Lib.hid (show LL.take 1 = [] ++ [L0] by rw [List.take_add_one, hL0]; simp)
  have D0 := d0.below (Nat.le_refl _) HB.out.be
  have z0 := fun pX => Blk.cell (blk_ext (HB.out.nth 2 rfl) pX) 0 (v := .int .i64 a) rfl
  have z1 := fun pX => Blk.cell (blk_ext (HB.out.nth 2 rfl) pX) 1 (v := .int .i64 p) rfl
  have z2 := fun pX => Blk.cell (blk_ext (HB.out.nth 2 rfl) pX) 2 (v := .int .i64 o) rfl
  have z3 := fun pX => Blk.cell (blk_ext (HB.out.nth 2 rfl) pX) 3 (v := .slice ia im ic) rfl
  have z4 := fun pX => Blk.cell (blk_ext (HB.out.nth 2 rfl) pX) 4 (v := .slice ea n ec) rfl
  have y0 := fun pX => Blk.cell (blk_ext (HB.out.nth 0 rfl) pX) 0 (v := .int .i64 a) rfl
  have y1 := fun pX => Blk.cell (blk_ext (HB.out.nth 0 rfl) pX) 1 (v := .int .i64 p) rfl
  have y2 := fun pX => Blk.cell (blk_ext (HB.out.nth 0 rfl) pX) 2 (v := .int .i64 o) rfl
  have y3 := fun pX => Blk.cell (blk_ext (HB.out.nth 0 rfl) pX) 3 (v := .slice none 0 0) rfl
  clear e0 hL0 hsz3
  refine Go.Proofs.Ytbceakdifklocaa.Rg.region_new [(4, plS im L0 wr.heap.size), (5, rowS im L0 wr.heap.size)] 6 (by kernel_rfl) (by kernel_rfl) (by kernel_rfl) (lk_cons plS_inh (lk_cons rowS_inh lk_nil)) (lk_cons plS_mono (lk_cons rowS_mono lk_nil)) ?_
  intro σ hσ
  simp only [List.take_succ_cons, List.take_zero, List.drop_succ_cons, List.drop_zero]
  refine Go.Proofs.Ytbceakdifklocaa.Rg.wpN_take 4 (by kernel_rfl) (by kernel_rfl) (by kernel_rfl) ?_
  simp only [List.take_succ_cons, List.take_zero, List.drop_succ_cons, List.drop_zero]
  repeat (go_big_quiet_step (fail))
  refine wpQuiet_nil ?_
  refine wpN_sp _ rfl (by kernel_rfl) (spAt_pl ia ic im L0 hn0 (by omega) D0 (by intro w0; go_simp)) ?_
  simp only [Act.put, List.setIfInBounds_toArray, List.set_cons_zero, List.set_cons_succ]
  obtain ⟨xa, xc, hx⟩ := hσ 4 _ rfl
  rw [hx]
  refine wpN_sp _ rfl (by kernel_rfl) (spAt_row 4 rfl (by kernel_rfl) hx (by intro w0; go_simp)) ?_
  simp only [Act.put, List.setIfInBounds_toArray, List.set_cons_zero, List.set_cons_succ]
  refine wpN_nil ?_
  rintro w9 ⟨pq, rfl⟩ hp
  obtain ⟨gn, ta, tc, hgn, hbn, hdn, hfn⟩ := hp 5 _ rfl
  rw [hgn]
  clear hp hσ hx
  have hown0 := own_below HC0.out.2.2.1 (below_ext _ pq)
  have hsz0 := (below_ext wr pq).size
  have hsz1 := HC0.out.2.1
  refine wpList_appG rfl _ _ rfl elemLR rfl hown0 rfl rfl (blk_news hbn) (by simp [Value.oneCell']) (by omega) (by unfold maxLen; omega) (by omega) ?_
  intro v9 w7 hown9 hgr9 hat9
  obtain ⟨gg, cap, rfl, -, -⟩ := hown9.form (by omega)
  have hG := pc_blk HC0.out (below_ext wr pq) hgr9
  have HC1 := Lib.hid (pc_step HC0.out (below_ext wr pq) hn0 hdn hfn hown9 hgr9 hat9)
  rw [← HT0.out] at HC1
  clear z0 z1 z2 z3 z4 y0 y1 y2 y3
  have y0 := Blk.cell (hG.nth 0 rfl) 0 (v := .int .i64 a) rfl
  have y1 := Blk.cell (hG.nth 0 rfl) 1 (v := .int .i64 p) rfl
  have y2 := Blk.cell (hG.nth 0 rfl) 2 (v := .int .i64 o) rfl
  have y3 := Blk.cell (hG.nth 0 rfl) 3 (v := .slice none 0 0) rfl
  have yf0 := Blk.frozen (hG.nth 0 rfl) 0
  have yf1 := Blk.frozen (hG.nth 0 rfl) 1
  have yf2 := Blk.frozen (hG.nth 0 rfl) 2
  have yf3 := Blk.frozen (hG.nth 0 rfl) 3
  clear hown0 hsz0 hsz1 hown9 hgr9 hat9 hG hbn hdn hfn hgn d0 D0 hl0
  go_wp2_with fail
  go_loopw [4] (fun i wr => ∃ (k m : Nat) (x : Option Addr) (cc : Nat) (VS : List Value), k ≤ n ∧ Hid (1 + 2 * k = m) ∧ i = .int .i64 k ∧ Pc w wr tv a p o (.slice x m cc) m VS (LL.take m)) (fun i _ => n - (intOf i).toNat)
  case atStart => exact ⟨0, 1, _, cap, _, by omega, Lib.hid rfl, rfl, HC1.out⟩
  case round =>
    obtain ⟨k, m, x, cc, VS, hk, hm, rfl, hc⟩ := hrel
    have HC := Lib.hid hc
    have hz : Blk wr w.heap.size 82 #[.int .i64 a, .int .i64 p, .int .i64 o, .slice ia im ic, .slice ea n ec] := by
      have := hc.2.2.2.2.2.nth 2 rfl
      rw [HTV.out] at this
      exact this
    clear hc HC1
    by_cases hkn : k < n
    · have t0 : decide ((k : Int) < (n : Int)) = true := by simp; omega
      have hm' := hm.out
      obtain ⟨q, hq⟩ : ∃ q, PS[k]? = some q := ⟨_, List.getElem?_eq_getElem (by rw [HN.out]; exact hkn)⟩
      obtain ⟨b1, o1, rfl, l1, hcl⟩ := HE.out.below (Nat.le_refl _) HC.out.2.2.2.2.2.be k _ hq
      have HQ := Lib.hid hq
      have hP := HP.out.below HC.out.2.2.2.2.2.be
      obtain ⟨r1, r2⟩ := lvs_at (.slice ia im ic) hq
      have hlen := HLEN.out
      obtain ⟨L1, hL1⟩ : ∃ L, LL[1 + 2 * k]? = some L := ⟨_, List.getElem?_eq_getElem (by omega)⟩
      obtain ⟨L2, hL2⟩ : ∃ L, LL[2 + 2 * k]? = some L := ⟨_, List.getElem?_eq_getElem (by omega)⟩
      obtain ⟨a1, n1, c1, e1, hn1, d1⟩ := hP.2 _ _ _ r1 hL1
      obtain ⟨a2, n2, c2, e2, hn2, d2⟩ := hP.2 _ _ _ r2 hL2
      obtain ⟨v1, v2⟩ := q
      dsimp only at e1 e2
      subst e1 e2
      have hl1 := HS.out _ (List.mem_of_getElem? hL1)
      have hl2 := HS.out _ (List.mem_of_getElem? hL2)
      have y0 : wr.cell? ⟨b1, o1 + k * 2, none⟩ = some (.slice a1 n1 c1) := hcl 0 _ rfl
      have f0 := fun pX => cell_ext l1 y0 pX
      have HT1 := Lib.hid (show LL.take (m + 1) = LL.take m ++ [L1] by rw [List.take_add_one, ← hm', hL1]; rfl)
      have HT2 := Lib.hid (show LL.take (m + 1 + 1) = LL.take (m + 1) ++ [L2] by rw [List.take_add_one, show m + 1 = 2 + 2 * k by omega, hL2]; rfl)
      have HR := Lib.hid (And.intro r2 hL2)
      have z0 := fun pX => Blk.cell (blk_ext (hz) pX) 0 (v := .int .i64 a) rfl
      have z1 := fun pX => Blk.cell (blk_ext (hz) pX) 1 (v := .int .i64 p) rfl
      have z2 := fun pX => Blk.cell (blk_ext (hz) pX) 2 (v := .int .i64 o) rfl
      have z3 := fun pX => Blk.cell (blk_ext (hz) pX) 3 (v := .slice ia im ic) rfl
      have z4 := fun pX => Blk.cell (blk_ext (hz) pX) 4 (v := .slice (some ⟨b1, o1, none⟩) n ec) rfl
      have y0 := fun pX => Blk.cell (blk_ext (HC.out.2.2.2.2.2.nth 0 rfl) pX) 0 (v := .int .i64 a) rfl
      have y1 := fun pX => Blk.cell (blk_ext (HC.out.2.2.2.2.2.nth 0 rfl) pX) 1 (v := .int .i64 p) rfl
      have y2 := fun pX => Blk.cell (blk_ext (HC.out.2.2.2.2.2.nth 0 rfl) pX) 2 (v := .int .i64 o) rfl
      have y3 := fun pX => Blk.cell (blk_ext (HC.out.2.2.2.2.2.nth 0 rfl) pX) 3 (v := .slice x m cc) rfl
      have k0 : (0 : Int) ≤ (k : Int) := Int.natCast_nonneg _
      have k1 : (k : Int) < (n : Int) := by omega
      have z4c := Blk.cell hz 4 (v := .slice (some ⟨b1, o1, none⟩) n ec) rfl
      clear hq l1 hcl hP r1 r2 hlen hL1 hL2 d2 y0 hz
      go_wp2_with fail
      refine Go.Proofs.Ytbceakdifklocaa.Rg.region_new [(8, plS n1 L1 wr.heap.size), (9, rowS n1 L1 wr.heap.size)] 10 (by kernel_rfl) (by kernel_rfl) (by kernel_rfl) (lk_cons plS_inh (lk_cons rowS_inh lk_nil)) (lk_cons plS_mono (lk_cons rowS_mono lk_nil)) ?_
      intro σ hσ
      simp only [List.take_succ_cons, List.take_zero, List.drop_succ_cons, List.drop_zero]
      refine Go.Proofs.Ytbceakdifklocaa.Rg.wpN_take 8 (by kernel_rfl) (by kernel_rfl) (by kernel_rfl) ?_
      simp only [List.take_succ_cons, List.take_zero, List.drop_succ_cons, List.drop_zero]
      repeat (go_big_quiet_step (fail))
      refine wpQuiet_nil ?_
      refine wpN_sp _ rfl (by kernel_rfl) (spAt_pl a1 c1 n1 L1 hn1 (by omega) d1 (by intro w0; go_simp)) ?_
      simp only [Act.put, List.setIfInBounds_toArray, List.set_cons_zero, List.set_cons_succ]
      obtain ⟨xa, xc, hx⟩ := hσ 8 _ rfl
      rw [hx]
      refine wpN_sp _ rfl (by kernel_rfl) (spAt_row 8 rfl (by kernel_rfl) hx (by intro w0; go_simp)) ?_
      simp only [Act.put, List.setIfInBounds_toArray, List.set_cons_zero, List.set_cons_succ]
      refine wpN_nil ?_
      rintro w9 ⟨pq, rfl⟩ hp
      obtain ⟨gn, ta, tc, hgn, hbn, hdn, hfn⟩ := hp 9 _ rfl
      rw [hgn]
      clear hp hσ hx
      have hown0 := own_below HC.out.2.2.1 (below_ext _ pq)
      have hsz0 := (below_ext wr pq).size
      have hsz1 := HC.out.2.1
      refine wpList_appG rfl _ _ rfl elemLR rfl hown0 rfl rfl (blk_news hbn) (by simp [Value.oneCell']) (by omega) (by unfold maxLen; omega) (by omega) ?_
      intro v9 w7 hown9 hgr9 hat9
      obtain ⟨gg', cap', rfl, -, -⟩ := hown9.form (by omega)
      have hG := pc_blk HC.out (below_ext wr pq) hgr9
      have HC1 := Lib.hid (pc_step HC.out (below_ext wr pq) hn1 hdn hfn hown9 hgr9 hat9)
      rw [← HT1.out] at HC1
      clear z0 z1 z2 z3 z4 y0 y1 y2 y3 f0 z4c
      have y0 := Blk.cell (hG.nth 0 rfl) 0 (v := .int .i64 a) rfl
      have y1 := Blk.cell (hG.nth 0 rfl) 1 (v := .int .i64 p) rfl
      have y2 := Blk.cell (hG.nth 0 rfl) 2 (v := .int .i64 o) rfl
      have y3 := Blk.cell (hG.nth 0 rfl) 3 (v := .slice x m cc) rfl
      have yf0 := Blk.frozen (hG.nth 0 rfl) 0
      have yf1 := Blk.frozen (hG.nth 0 rfl) 1
      have yf2 := Blk.frozen (hG.nth 0 rfl) 2
      have yf3 := Blk.frozen (hG.nth 0 rfl) 3
      clear hown0 hsz0 hsz1 hown9 hgr9 hat9 hG hbn hdn hfn hgn d1 hl1
      go_wp2_with fail
      obtain ⟨wm, hwm⟩ : ∃ wm, w7.setCell ⟨w.heap.size + 1 + 1, 3, none⟩ (.slice (some ⟨gg', 0, none⟩) (m + 1) cap') = wm := ⟨_, rfl⟩
      rw [hwm] at HC1 ⊢
      have hz : Blk wm w.heap.size 82 #[.int .i64 a, .int .i64 p, .int .i64 o, .slice ia im ic, .slice (some ⟨b1, o1, none⟩) n ec] := by
        have := HC1.out.2.2.2.2.2.nth 2 rfl
        rw [HTV.out] at this
        exact this
      obtain ⟨b2, o2, e2, l1, hcl⟩ := HE.out.below (Nat.le_refl _) HC1.out.2.2.2.2.2.be k _ HQ.out
      simp only [Option.some.injEq, Addr.mk.injEq, and_true] at e2
      obtain ⟨rfl, rfl⟩ := e2
      obtain ⟨a3, n3, c3, e3, hn3, d3⟩ := (HP.out.below HC1.out.2.2.2.2.2.be).2 _ _ _ HR.out.1 HR.out.2
      simp only [Value.slice.injEq] at e3
      obtain ⟨rfl, rfl, rfl⟩ := e3
      have y0 : wm.cell? ⟨b1, o1 + k * 2 + 1, none⟩ = some (.slice a2 n2 c2) := hcl 1 _ rfl
      have f0 := fun pX => cell_ext l1 y0 pX
      clear y0 y1 y2 y3 yf0 yf1 yf2 yf3
      have z0 := fun pX => Blk.cell (blk_ext (hz) pX) 0 (v := .int .i64 a) rfl
      have z1 := fun pX => Blk.cell (blk_ext (hz) pX) 1 (v := .int .i64 p) rfl
      have z2 := fun pX => Blk.cell (blk_ext (hz) pX) 2 (v := .int .i64 o) rfl
      have z3 := fun pX => Blk.cell (blk_ext (hz) pX) 3 (v := .slice ia im ic) rfl
      have z4 := fun pX => Blk.cell (blk_ext (hz) pX) 4 (v := .slice (some ⟨b1, o1, none⟩) n ec) rfl
      have y0 := fun pX => Blk.cell (blk_ext (HC1.out.2.2.2.2.2.nth 0 rfl) pX) 0 (v := .int .i64 a) rfl
      have y1 := fun pX => Blk.cell (blk_ext (HC1.out.2.2.2.2.2.nth 0 rfl) pX) 1 (v := .int .i64 p) rfl
      have y2 := fun pX => Blk.cell (blk_ext (HC1.out.2.2.2.2.2.nth 0 rfl) pX) 2 (v := .int .i64 o) rfl
      have y3 := fun pX => Blk.cell (blk_ext (HC1.out.2.2.2.2.2.nth 0 rfl) pX) 3 (v := .slice (some ⟨gg', 0, none⟩) (m + 1) cap') rfl
      clear hwm HC HT1 hcl l1 hz
      refine Go.Proofs.Ytbceakdifklocaa.Rg.region_new [(8, plS n2 L2 wm.heap.size), (9, rowS n2 L2 wm.heap.size)] 10 (by kernel_rfl) (by kernel_rfl) (by kernel_rfl) (lk_cons plS_inh (lk_cons rowS_inh lk_nil)) (lk_cons plS_mono (lk_cons rowS_mono lk_nil)) ?_
      intro σ hσ
      simp only [List.take_succ_cons, List.take_zero, List.drop_succ_cons, List.drop_zero]
      refine Go.Proofs.Ytbceakdifklocaa.Rg.wpN_take 8 (by kernel_rfl) (by kernel_rfl) (by kernel_rfl) ?_
      simp only [List.take_succ_cons, List.take_zero, List.drop_succ_cons, List.drop_zero]
      repeat (go_big_quiet_step (fail))
      refine wpQuiet_nil ?_
      refine wpN_sp _ rfl (by kernel_rfl) (spAt_pl a2 c2 n2 L2 hn2 (by omega) d3 (by intro w0; go_simp)) ?_
      simp only [Act.put, List.setIfInBounds_toArray, List.set_cons_zero, List.set_cons_succ]
      obtain ⟨xa, xc, hx⟩ := hσ 8 _ rfl
      rw [hx]
      refine wpN_sp _ rfl (by kernel_rfl) (spAt_row 8 rfl (by kernel_rfl) hx (by intro w0; go_simp)) ?_
      simp only [Act.put, List.setIfInBounds_toArray, List.set_cons_zero, List.set_cons_succ]
      refine wpN_nil ?_
      rintro w9 ⟨pq, rfl⟩ hp
      obtain ⟨gn, ta, tc, hgn, hbn, hdn, hfn⟩ := hp 9 _ rfl
      rw [hgn]
      clear hp hσ hx
      have hown0 := own_below HC1.out.2.2.1 (below_ext _ pq)
      have hsz0 := (below_ext wm pq).size
      have hsz1 := HC1.out.2.1
      refine wpList_appG rfl _ _ rfl elemLR rfl hown0 rfl rfl (blk_news hbn) (by simp [Value.oneCell']) (by omega) (by unfold maxLen; omega) (by omega) ?_
      intro v9 w7 hown9 hgr9 hat9
      obtain ⟨gg, cap, rfl, -, -⟩ := hown9.form (by omega)
      have hG := pc_blk HC1.out (below_ext wm pq) hgr9
      have HC2 := Lib.hid (pc_step HC1.out (below_ext wm pq) hn2 hdn hfn hown9 hgr9 hat9)
      rw [← HT2.out] at HC2
      clear z0 z1 z2 z3 z4 y0 y1 y2 y3 f0
      have y0 := Blk.cell (hG.nth 0 rfl) 0 (v := .int .i64 a) rfl
      have y1 := Blk.cell (hG.nth 0 rfl) 1 (v := .int .i64 p) rfl
      have y2 := Blk.cell (hG.nth 0 rfl) 2 (v := .int .i64 o) rfl
      have y3 := Blk.cell (hG.nth 0 rfl) 3 (v := .slice (some ⟨gg', 0, none⟩) (m + 1) cap') rfl
      have yf0 := Blk.frozen (hG.nth 0 rfl) 0
      have yf1 := Blk.frozen (hG.nth 0 rfl) 1
      have yf2 := Blk.frozen (hG.nth 0 rfl) 2
      have yf3 := Blk.frozen (hG.nth 0 rfl) 3
      clear hown0 hsz0 hsz1 hown9 hgr9 hat9 hG hbn hdn hfn hgn d3 hl2
      go_wp2_with fail
      go_roundw
      case rel => exact ⟨k + 1, m + 1 + 1, _, cap, _, by omega, Lib.hid (by have := hm.out; omega), by go_num, HC2.out⟩
      case measure => simp [intOf]; omega
    · obtain rfl : k = n := by omega
      have t0 : decide ((k : Int) < (k : Int)) = false := by simp
      have hall : LL.take m = LL := List.take_of_length_le (by have := hm.out; have := HLEN.out; omega)
      rw [hall] at HC
      have HM := Lib.hid (show m = 1 + 2 * k from hm.out.symm)
      have z0 := Blk.cell (hz) 0 (v := .int .i64 a) rfl
      have z1 := Blk.cell (hz) 1 (v := .int .i64 p) rfl
      have z2 := Blk.cell (hz) 2 (v := .int .i64 o) rfl
      have z3 := Blk.cell (hz) 3 (v := .slice ia im ic) rfl
      have z4 := Blk.cell (hz) 4 (v := .slice ea k ec) rfl
      have y0 := Blk.cell (HC.out.2.2.2.2.2.nth 0 rfl) 0 (v := .int .i64 a) rfl
      have y1 := Blk.cell (HC.out.2.2.2.2.2.nth 0 rfl) 1 (v := .int .i64 p) rfl
      have y2 := Blk.cell (HC.out.2.2.2.2.2.nth 0 rfl) 2 (v := .int .i64 o) rfl
      have y3 := Blk.cell (HC.out.2.2.2.2.2.nth 0 rfl) 3 (v := .slice x m cc) rfl
      have v0 := Blk.cell (HC.out.2.2.2.2.2.nth 1 rfl) 0 (v := .int .i64 0) rfl
      have v1 := Blk.cell (HC.out.2.2.2.2.2.nth 1 rfl) 1 (v := .int .i64 0) rfl
      have v2 := Blk.cell (HC.out.2.2.2.2.2.nth 1 rfl) 2 (v := .int .i64 0) rfl
      have v3 := Blk.cell (HC.out.2.2.2.2.2.nth 1 rfl) 3 (v := .slice none 0 0) rfl
      have vf0 := Blk.frozen (HC.out.2.2.2.2.2.nth 1 rfl) 0
      have vf1 := Blk.frozen (HC.out.2.2.2.2.2.nth 1 rfl) 1
      have vf2 := Blk.frozen (HC.out.2.2.2.2.2.nth 1 rfl) 2
      have vf3 := Blk.frozen (HC.out.2.2.2.2.2.nth 1 rfl) 3
      clear hz
      go_wp2_with fail
      refine bp_gen (fun V => Blk V (w.heap.size + 1) 91 #[.int .i64 a, .int .i64 p, .int .i64 o, .slice x m cc] ∧ Below w.heap.size w V ∧ Lps V VS LL ∧ Seq en1 1 V x VS) (pc_end HC.out (.int .i64 a) (.int .i64 p) (.int .i64 o) (.slice x m cc)) ?_
      rintro V ⟨hV, hVE, hVL, hVS⟩
      have hm' := HM.out
      clear HC y0 y1 y2 y3 v0 v1 v2 v3 z0 z1 z2 z3 z4
      subst hm'
      exact bodyPost_ret (v := .agg #[.int .i64 a, .int .i64 p, .int .i64 o, .slice x (1 + 2 * k) cc]) (by simp [results, Try.results37, go_sem, Blk.cell hV 0 (v := .int .i64 a) rfl, Blk.cell hV 1 (v := .int .i64 p) rfl, Blk.cell hV 2 (v := .int .i64 o) rfl, Blk.cell hV 3 (v := .slice x (1 + 2 * k) cc) rfl]) rfl ⟨⟨x, ⟨cc, rfl⟩, VS, hVS, hVL⟩, hVE⟩
end Go.Proofs.Ytbceakdifklocaa.DwC
