/- ReadInt: the walk. -/
import Derived.Test.YtbceakdifklocaaDuD
import Derived.Deep.DeepCutAuto
import Derived.Deep.RegionHeld3
namespace Go.Proofs.Ytbceakdifklocaa.DuE
open Go Go.RowKit Go.Proofs.Ytbceakdifklocaa.Q Go.Proofs.Ytbceakdifklocaa.Mem Go.Proofs.Ytbceakdifklocaa.DsA Go.Proofs.Ytbceakdifklocaa.DsB Go.Proofs.Ytbceakdifklocaa.DsC Go.Proofs.Ytbceakdifklocaa.DsD Go.Proofs.Ytbceakdifklocaa.DsE Go.Proofs.Ytbceakdifklocaa.DsI Go.Proofs.Ytbceakdifklocaa.DsK Go.Proofs.Ytbceakdifklocaa.DsP Go.Proofs.Ytbceakdifklocaa.DsQ Go.Proofs.Ytbceakdifklocaa.DsR Go.Proofs.Ytbceakdifklocaa.DsS Go.Proofs.Ytbceakdifklocaa.DsU Go.Proofs.Ytbceakdifklocaa.DsW Go.Proofs.Ytbceakdifklocaa.DsX Go.Proofs.Ytbceakdifklocaa.DsY Go.Proofs.Ytbceakdifklocaa.DtF Go.Proofs.Ytbceakdifklocaa.DuA Go.Proofs.Ytbceakdifklocaa.DuB Go.Proofs.Ytbceakdifklocaa.DuC Go.Proofs.Ytbceakdifklocaa.DuD Go.Proofs.Ytbceakdifklocaa.Rg Go.Proofs.Ytbceakdifklocaa.Ap

set_option maxRecDepth 100000
theorem ri_short (ext : Int) (body : ByteArray) (w : World) (h : in1 65535 ext = false ∨ body.size < 4) :
    Calls Try.prog 34 #[.int .i64 ext, .string body] w fun e w' => Got ext body w w' e := by
  have HB := Lib.hid (bk1 w 82 #[.int .i64 0, .int .i64 0, .int .i64 0, .slice none 0 0, .slice none 0 0])
  have k1 := fun V g hg => within_new 65535 V [ext] 1 g #[.int .i64 ext] rfl rfl hg (by simp)
  obtain ⟨b, hb⟩ : ∃ b, inB 65535 [ext] = b := ⟨_, rfl⟩
  have hb2 : in1 65535 ext = b := by rw [← hb]; simp [inB]
  rw [hb] at k1
  cases b with
  | false =>
    have hE : riE ext body = 15 := by simp [riE, hb2]
    have HE := Lib.hid hE
    clear h hb hb2 hE
    go_enter Try.func34, Try.ntmps34
    go_wp2_with fail
    go_step3
    go_wp2_with fail
    (with_reducible refine (k1 _ _ (by simp)).mono ?_); rintro e1 W1 ⟨rfl, hb1⟩
    have HB1 := Lib.hid (HB.out.below hb1)
    have z0 := Blk.cell (HB1.out.nth 0 rfl) 0 (v := .int .i64 0) rfl
    have z1 := Blk.cell (HB1.out.nth 0 rfl) 1 (v := .int .i64 0) rfl
    have z2 := Blk.cell (HB1.out.nth 0 rfl) 2 (v := .int .i64 0) rfl
    have z3 := Blk.cell (HB1.out.nth 0 rfl) 3 (v := .slice none 0 0) rfl
    have z4 := Blk.cell (HB1.out.nth 0 rfl) 4 (v := .slice none 0 0) rfl
    have zf0 := Blk.frozen (HB1.out.nth 0 rfl) 0
    have zf1 := Blk.frozen (HB1.out.nth 0 rfl) 1
    have zf2 := Blk.frozen (HB1.out.nth 0 rfl) 2
    have zf3 := Blk.frozen (HB1.out.nth 0 rfl) 3
    have zf4 := Blk.frozen (HB1.out.nth 0 rfl) 4
    clear HB hb1 k1
    go_wp2_with fail
    have hS := (row_set [.int .i64 0, .int .i64 0, .int .i64 0, .slice none 0 0, .slice none 0 0] (HB1.out.nth 0 rfl)).1
    have hE := Go.Proofs.Ytbceakdifklocaa.Rg.below_setCells (Nat.le_refl w.heap.size) [.int .i64 0, .int .i64 0, .int .i64 0, .slice none 0 0, .slice none 0 0] 0 w _ HB1.out.be
    rw [Exit.noGoto_ret]
    refine bp_gen (fun V => Blk V w.heap.size 82 #[.int .i64 0, .int .i64 0, .int .i64 0, .slice none 0 0, .slice none 0 0] ∧ Below w.heap.size w V) ⟨hS, hE⟩ ?_
    intro V ⟨hV, hVE⟩
    exact bodyPost_ret (v := .tuple #[.agg zeroI, .int .i64 15]) (by simp [results, Try.results34, go_sem, zeroI, Blk.cell hV 0 (v := .int .i64 0) rfl, Blk.cell hV 1 (v := .int .i64 0) rfl, Blk.cell hV 2 (v := .int .i64 0) rfl, Blk.cell hV 3 (v := .slice none 0 0) rfl, Blk.cell hV 4 (v := .slice none 0 0) rfl]) rfl ⟨⟨zeroI, by rw [HE.out], fun _ => rfl, fun h => by rw [HE.out] at h; omega⟩, hVE⟩
  | true =>
    have h4 : body.size < 4 := by rcases h with h | h; (rw [hb2] at h; cases h); exact h
    have hE : riE ext body = 10 := by simp [riE, hb2, h4]
    have HE := Lib.hid hE
    have t1 : decide ((body.size : Int) < 4) = true := by simp; omega
    clear h hb hb2 hE h4
    go_enter Try.func34, Try.ntmps34
    go_wp2_with fail
    go_step3
    go_wp2_with fail
    (with_reducible refine (k1 _ _ (by simp)).mono ?_); rintro e1 W1 ⟨rfl, hb1⟩
    have HB1 := Lib.hid (HB.out.below hb1)
    have z0 := Blk.cell (HB1.out.nth 0 rfl) 0 (v := .int .i64 0) rfl
    have z1 := Blk.cell (HB1.out.nth 0 rfl) 1 (v := .int .i64 0) rfl
    have z2 := Blk.cell (HB1.out.nth 0 rfl) 2 (v := .int .i64 0) rfl
    have z3 := Blk.cell (HB1.out.nth 0 rfl) 3 (v := .slice none 0 0) rfl
    have z4 := Blk.cell (HB1.out.nth 0 rfl) 4 (v := .slice none 0 0) rfl
    have zf0 := Blk.frozen (HB1.out.nth 0 rfl) 0
    have zf1 := Blk.frozen (HB1.out.nth 0 rfl) 1
    have zf2 := Blk.frozen (HB1.out.nth 0 rfl) 2
    have zf3 := Blk.frozen (HB1.out.nth 0 rfl) 3
    have zf4 := Blk.frozen (HB1.out.nth 0 rfl) 4
    clear HB hb1 k1
    go_wp2_with fail
    have hS := (row_set [.int .i64 0, .int .i64 0, .int .i64 0, .slice none 0 0, .slice none 0 0] (HB1.out.nth 0 rfl)).1
    have hE := Go.Proofs.Ytbceakdifklocaa.Rg.below_setCells (Nat.le_refl w.heap.size) [.int .i64 0, .int .i64 0, .int .i64 0, .slice none 0 0, .slice none 0 0] 0 w _ HB1.out.be
    rw [Exit.noGoto_ret]
    refine bp_gen (fun V => Blk V w.heap.size 82 #[.int .i64 0, .int .i64 0, .int .i64 0, .slice none 0 0, .slice none 0 0] ∧ Below w.heap.size w V) ⟨hS, hE⟩ ?_
    intro V ⟨hV, hVE⟩
    exact bodyPost_ret (v := .tuple #[.agg zeroI, .int .i64 10]) (by simp [results, Try.results34, go_sem, zeroI, Blk.cell hV 0 (v := .int .i64 0) rfl, Blk.cell hV 1 (v := .int .i64 0) rfl, Blk.cell hV 2 (v := .int .i64 0) rfl, Blk.cell hV 3 (v := .slice none 0 0) rfl, Blk.cell hV 4 (v := .slice none 0 0) rfl]) rfl ⟨⟨zeroI, by rw [HE.out], fun _ => rfl, fun h => by rw [HE.out] at h; omega⟩, hVE⟩
/-- at the label -/
def Cor2 (ext : Int) (body : ByteArray) (w W : World) (B gx : Nat) (A : List (List Dc)) (VS : List Value) (v : Value) : Prop :=
  w.heap.size < gx ∧ gx < B ∧ B ≤ W.heap.size ∧ W.ownsRow B 45 1 v VS.length (flat en1 VS) ∧ Lps W VS A ∧ Away B W.heap.size v.ownBlock VS ∧ (∀ L ∈ A, L.length ≤ 4200) ∧
  Bk w W [(gx, 82, #[.int .i64 (ext / 256), .int .i64 (platOf body), .int .i64 (at' body 3), .slice none 0 0, .slice none 0 0]), (w.heap.size, 82, #[.int .i64 0, .int .i64 0, .int .i64 0, .slice none 0 0, .slice none 0 0])]
def Core (ext : Int) (body : ByteArray) (w W : World) (B gx f : Nat) (A : List (List Dc)) (VS : List Value) (t : ByteArray) (v : Value) : Prop :=
  Cor2 ext body w W B gx A VS v ∧ 2 * VS.length + t.size ≤ body.size ∧ t.size + 1 ≤ f ∧ riR body = rdI f A t
theorem cor2_step {ext : Int} {body : ByteArray} {w W V w8 : World} {B gx n : Nat} {A : List (List Dc)} {VS : List Value} {v v9 : Value} {ta : Option Addr} {tc : Nat} {TL : List Dc} (hc : Cor2 ext body w W B gx A VS v) (hV : Below W.heap.size W V) (hd : Ds V ta TL) (hfr : Fresh W ta) (hTL : TL.length ≤ 4200)
    (hn : n = VS.length + 1) (hown : w8.ownsRow B 45 1 v9 n (flat en1 VS ++ [.slice ta TL.length tc])) (hgr : V.grownBy w8 v.ownBlock) (hat : v9.ownBlock = v.ownBlock ∨ v9.ownBlock = some V.heap.size) : Cor2 ext body w w8 B gx (A ++ [TL]) (VS ++ [.slice ta TL.length tc]) v9 := by
  subst hn
  obtain ⟨h1, h2, h3, h4, h5, h6, h7, h8⟩ := hc
  have z1 := hV.size
  have z2 := hgr.size
  have hlt := h4.lt
  have haw' : Away B W.heap.size v.ownBlock VS := h6
  have hps : Lps w8 VS A := lps_grown (h5.below hV) hgr h6
  have hnd : ∀ (b o : Nat), ta = some ⟨b, o, none⟩ → v.ownBlock ≠ some b := fun b o e r => by
    have := hfr b o e
    have := (hlt b r).2
    omega
  refine ⟨h1, h2, by omega, ?_, lps_snoc hps ⟨ta, TL.length, tc, rfl, rfl, ds_grown hd hgr hnd⟩, ?_, ?_, ?_⟩
  · simpa [flat, en1] using hown
  · intro i a n c hi hn b o e
    rcases Nat.lt_or_ge i VS.length with hl | hl
    · rw [List.getElem?_append_left hl] at hi
      obtain ⟨q1, q2, q3⟩ := h6 i a n c hi hn b o e
      refine ⟨q1, by omega, fun r => ?_⟩
      rcases hat with hat | hat
      · exact q3 (by rw [← hat]; exact r)
      · rw [hat] at r; injection r with r; omega
    · rw [List.getElem?_append_right hl] at hi
      have e0 : i - VS.length = 0 := by
        have := (List.getElem?_eq_some_iff.1 hi).1
        simp at this; omega
      rw [e0] at hi
      simp at hi
      obtain ⟨rfl, rfl, rfl⟩ := hi
      have q1 := hfr b o e
      have q2 : b < V.heap.size := by
        cases hTT : TL with
        | nil => rw [hTT] at hn; simp at hn
        | cons d M =>
          obtain ⟨b', o', e', hlt', _⟩ := hd 0 d (by rw [hTT]; rfl)
          rw [e] at e'; injection e' with e'; injection e' with e1 e2; omega
      refine ⟨by omega, by omega, fun r => ?_⟩
      rcases hat with hat | hat
      · exact hnd b o e (by rw [← hat]; exact r)
      · rw [hat] at r; injection r with r; omega
  · intro L hL
    rcases List.mem_append.1 hL with hL | hL
    · exact h7 L hL
    · simp at hL; subst hL; exact hTL
  · have hB := h8.below hV
    refine ⟨hB.be.trans (below_of_only hgr hB.size (fun k hk => ?_)), fun x hx => Blk.grown (hB.all x hx) hgr (fun e => ?_)⟩
    · have := (hlt k hk).1; omega
    · have := (hlt x.1 e.symm).1
      rcases List.mem_cons.1 hx with rfl | hx
      · simp at this; omega
      · simp at hx; subst hx; simp at this; omega
/-- in the loop of the entries -/
def Cor3 (ext : Int) (body : ByteArray) (w : World) (S B gx g9 NN c9 : Nat) (XS : List Value) (AA : List (List Dc)) (iv : Value) (wr : World) (j : Nat) (ea : Option Addr) (ec : Nat) : Prop :=
  S ≤ wr.heap.size ∧ wr.ownsRow B 45 1 (.slice (some ⟨g9, 0, none⟩) NN c9) NN (flat en1 XS) ∧ Lps wr XS AA ∧ wr.ownsRow S 116 2 (.slice ea j ec) j (flat en2 (ents XS j)) ∧
  Bk w wr [(gx, 82, #[.int .i64 (ext / 256), .int .i64 (platOf body), .int .i64 (at' body 3), iv, .slice ea j ec]), (w.heap.size, 82, #[.int .i64 0, .int .i64 0, .int .i64 0, .slice none 0 0, .slice none 0 0])]
theorem cor3_step {ext : Int} {body : ByteArray} {w wr V w1 : World} {S B gx g9 NN c9 j ec gg cap : Nat} {XS : List Value} {AA : List (List Dc)} {iv : Value} {ea : Option Addr} (h : Cor3 ext body w S B gx g9 NN c9 XS AA iv wr j ea ec) (hs : w.heap.size < gx ∧ gx < B ∧ B ≤ g9 ∧ g9 < S) (hA : Away B S none XS)
    (hV : Below wr.heap.size wr V) (hgr : V.grownBy w1 (Value.slice ea j ec).ownBlock) (hown : w1.ownsRow S 116 2 (.slice (some ⟨gg, 0, none⟩) (j + 1) cap) (j + 1) (flat en2 (ents XS (j + 1)))) :
    Cor3 ext body w S B gx g9 NN c9 XS AA iv (w1.setCell ⟨gx, 4, none⟩ (.slice (some ⟨gg, 0, none⟩) (j + 1) cap)) (j + 1) (some ⟨gg, 0, none⟩) cap := by
  obtain ⟨h1, h2, h3, h4, h5⟩ := h
  obtain ⟨s1, s2, s3, s4⟩ := hs
  have z1 := hV.size
  have z2 := hgr.size
  have hlt := h4.lt
  have hgg := (hown.lt gg rfl).1
  have hset : w1.grownBy (w1.setCell ⟨gx, 4, none⟩ (.slice (some ⟨gg, 0, none⟩) (j + 1) cap)) (some gx) := only_set (only_refl _ _) 4 _
  have hne : ∀ b, b < S → (Value.slice ea j ec).ownBlock ≠ some b := fun b hb r => by have := (hlt b r).1; omega
  have hA2 : ∀ r : Option Nat, (∀ b, B ≤ b → b < S → r ≠ some b) → Away B S r XS := fun r hr i a n c hi hn b o e => by
    obtain ⟨q1, q2, _⟩ := hA i a n c hi hn b o e
    exact ⟨q1, q2, hr b q1 q2⟩
  refine ⟨by have := hset.size; omega, ?_, ?_, ?_, ?_⟩
  · refine ((own_below h2 hV).kept hgr (Or.inr ?_)).kept hset (Or.inr ?_)
    · exact fun e => hne g9 s4 e.symm
    · simp [Value.ownBlock]; omega
  · exact lps_grown (lps_grown (h3.below hV) hgr (hA2 _ fun b _ q => hne b q)) hset (hA2 _ fun b q _ e => by injection e with e; omega)
  · exact hown.kept hset (Or.inr (by simp [Value.ownBlock]; omega))
  · have hB := h5.below hV
    have hBw : Bk w w1 [(gx, 82, #[.int .i64 (ext / 256), .int .i64 (platOf body), .int .i64 (at' body 3), iv, .slice ea j ec]), (w.heap.size, 82, #[.int .i64 0, .int .i64 0, .int .i64 0, .slice none 0 0, .slice none 0 0])] := by
      refine ⟨hB.be.trans (below_of_only hgr hB.size (fun k hk => ?_)), fun x hx => Blk.grown (hB.all x hx) hgr (fun e => ?_)⟩
      · have := (hlt k hk).1; omega
      · have := (hlt x.1 e.symm).1
        rcases List.mem_cons.1 hx with rfl | hx
        · simp at this; omega
        · simp at hx; subst hx; simp at this; omega
    refine ⟨hBw.be.trans (below_of_only hset hBw.size (fun k hk => by injection hk with hk; omega)), fun x hx => ?_⟩
    rcases List.mem_cons.1 hx with rfl | hx
    · exact Blk.set_ (hBw.nth 0 rfl) 4 _
    · simp at hx; subst hx
      exact Blk.grown (hBw.nth 1 rfl) hset (by simp; omega)
theorem elemE : Elem Try.prog 80 116 2 48 := elem_of Try.underlying80 (z := .agg #[.slice none 0 0, .slice none 0 0]) (by kernel_rfl) rfl (by decide)
theorem cor3_blk {ext : Int} {body : ByteArray} {w wr V w1 : World} {S B gx g9 NN c9 j ec : Nat} {XS : List Value} {AA : List (List Dc)} {iv : Value} {ea : Option Addr} (h : Cor3 ext body w S B gx g9 NN c9 XS AA iv wr j ea ec) (hs : w.heap.size < gx ∧ gx < B ∧ B ≤ g9 ∧ g9 < S)
    (hV : Below wr.heap.size wr V) (hgr : V.grownBy w1 (Value.slice ea j ec).ownBlock) : Blk w1 gx 82 #[.int .i64 (ext / 256), .int .i64 (platOf body), .int .i64 (at' body 3), iv, .slice ea j ec] :=
  Blk.grown ((h.2.2.2.2.below hV).nth 0 rfl) hgr (fun e => by have := (h.2.2.2.1.lt gx e.symm).1; omega)
theorem cor3_below {ext : Int} {body : ByteArray} {w wr V : World} {S B gx g9 NN c9 j ec : Nat} {XS : List Value} {AA : List (List Dc)} {iv : Value} {ea : Option Addr} (h : Cor3 ext body w S B gx g9 NN c9 XS AA iv wr j ea ec) (hV : Below wr.heap.size wr V) : Cor3 ext body w S B gx g9 NN c9 XS AA iv V j ea ec :=
  ⟨by have := hV.size; have := h.1; omega, own_below h.2.1 hV, h.2.2.1.below hV, own_below h.2.2.2.1 hV, h.2.2.2.2.below hV⟩
theorem cor3_end {ext : Int} {body : ByteArray} {w wr : World} {S B gx g9 NN c9 j ec : Nat} {XS : List Value} {AA : List (List Dc)} {iv : Value} {ea : Option Addr} (h : Cor3 ext body w S B gx g9 NN c9 XS AA iv wr j ea ec) (hs : w.heap.size < gx ∧ gx < B ∧ B ≤ g9 ∧ g9 < S) (hA : Away B S none XS) (a b c d e : Value) :
    Blk (wr.setCells w.heap.size 0 [a, b, c, d, e]) w.heap.size 82 #[a, b, c, d, e] ∧ Below w.heap.size w (wr.setCells w.heap.size 0 [a, b, c, d, e]) ∧ Lps (wr.setCells w.heap.size 0 [a, b, c, d, e]) XS AA ∧ Seq en2 2 (wr.setCells w.heap.size 0 [a, b, c, d, e]) ea (ents XS j) := by
  obtain ⟨h1, h2, h3, h4, h5⟩ := h
  have hset : wr.grownBy (wr.setCells w.heap.size 0 [a, b, c, d, e]) (some w.heap.size) := Go.Proofs.Ytbceakdifklocaa.Rg.only_setCells [a, b, c, d, e] 0 _ _ (only_refl _ _)
  refine ⟨(row_set [a, b, c, d, e] (h5.nth 1 rfl)).1, Go.Proofs.Ytbceakdifklocaa.Rg.below_setCells (Nat.le_refl w.heap.size) [a, b, c, d, e] 0 w _ h5.be, lps_grown (B := B) (S := S) h3 hset (fun i a n c hi hn b o e => ?_), own_seq en2_len (h4.kept hset ?_) (ents_len XS j)⟩
  · obtain ⟨q1, q2, _⟩ := hA i a n c hi hn b o e
    exact ⟨q1, q2, fun e => by injection e with e; omega⟩
  · by_cases hr : (Value.slice ea j ec).ownBlock = some w.heap.size
    · have := (h4.lt _ hr).1; omega
    · exact Or.inr hr
theorem cor3_start {ext : Int} {body : ByteArray} {w W : World} {B gx g9 NN c9 : Nat} {XS : List Value} {AA : List (List Dc)} {iv : Value} (h : Cor2 ext body w W B gx AA XS (.slice (some ⟨g9, 0, none⟩) NN c9)) (hN : XS.length = NN) :
    (w.heap.size < gx ∧ gx < B ∧ B ≤ g9 ∧ g9 < W.heap.size) ∧ Away B W.heap.size none XS ∧ Cor3 ext body w W.heap.size B gx g9 NN c9 XS AA iv (W.setCell ⟨gx, 3, none⟩ iv) 0 none 0 := by
  obtain ⟨h1, h2, h3, h4, h5, h6, h7, h8⟩ := h
  rw [hN] at h4
  have hg := h4.lt g9 rfl
  have hset : W.grownBy (W.setCell ⟨gx, 3, none⟩ iv) (some gx) := only_set (only_refl _ _) 3 _
  have hA2 : ∀ r : Option Nat, (∀ b, B ≤ b → b < W.heap.size → r ≠ some b) → Away B W.heap.size r XS := fun r hr i a n c hi hn b o e => by
    obtain ⟨q1, q2, _⟩ := h6 i a n c hi hn b o e
    exact ⟨q1, q2, hr b q1 q2⟩
  refine ⟨⟨h1, h2, hg.1, hg.2⟩, hA2 _ (fun b _ _ e => by cases e), hset.size, h4.kept hset (Or.inr (by simp [Value.ownBlock]; omega)), lps_grown h5 hset (hA2 _ fun b q _ e => by injection e with e; omega), World.ownsRow_nil _ _ _ _, ?_⟩
  refine ⟨h8.be.trans (below_of_only hset h8.size (fun k hk => by injection hk with hk; omega)), fun x hx => ?_⟩
  rcases List.mem_cons.1 hx with rfl | hx
  · exact Blk.set_ (h8.nth 0 rfl) 3 _
  · simp at hx; subst hx
    exact Blk.grown (h8.nth 1 rfl) hset (by simp; omega)
def frm (ext : Int) (body : ByteArray) (S gx : Nat) (v : Value) (t : ByteArray) (u : Nat → Value) : Act := { tmps := #[.int .i64 ext, .string body, undef, undef, .pointer (some ⟨S, 0, none⟩), .int .i64 0, .pointer (some ⟨gx, 0, none⟩), v, .string t, u 9, u 10, u 11, u 12, u 13, u 14, u 15, u 16, u 17, u 18, u 19, u 20, u 21, u 22, u 23, u 24, u 25, u 26, u 27, u 28, u 29, u 30, u 31, u 32, u 33, u 34, u 35, u 36, u 37, u 38, u 39, u 40, u 41, u 42, u 43, u 44, u 45, u 46, u 47, u 48, u 49, u 50, u 51, u 52, u 53, u 54, u 55, u 56, u 57, u 58, u 59, u 60, u 61, u 62, u 63, u 64, u 65, u 66, u 67, u 68, u 69, u 70, u 71, u 72, u 73, u 74, u 75, u 76, u 77, u 78, u 79, u 80, u 81, u 82, u 83, u 84, u 85, u 86, u 87, u 88, u 89, u 90, u 91, u 92, u 93, u 94, u 95, u 96, u 97, u 98, u 99, u 100, u 101, u 102, u 103, u 104, u 105, u 106, u 107, u 108, u 109], defers := [] }
def At (ext : Int) (body : ByteArray) (w : World) (a : Act) (W : World) : Prop := ∃ (B gx f : Nat) (A : List (List Dc)) (VS : List Value) (t : ByteArray) (v : Value) (u : Nat → Value),
  a = frm ext body w.heap.size gx v t u ∧ Core ext body w W B gx f A VS t v
def tm (a : Act) (k : Nat) : Value := a.tmps.getD k undef
theorem at_intro {ext : Int} {body : ByteArray} {w W : World} {a : Act} {B gx f : Nat} {A : List (List Dc)} {VS : List Value} {t : ByteArray} {v : Value} (h : a = frm ext body w.heap.size gx v t (tm a)) (hc : Core ext body w W B gx f A VS t v) : At ext body w a W := ⟨B, gx, f, A, VS, t, v, tm a, h, hc⟩
def left (a : Act) (_ : World) : Nat := match a.tmps.getD 8 undef with | .string t => t.size | _ => 0
set_option maxHeartbeats 3200000 in
theorem ri_go (ext : Int) (body : ByteArray) (w : World) (h : in1 65535 ext = true) (h4 : ¬ body.size < 4) (hs : body.size ≤ 100000) :
    Calls Try.prog 34 #[.int .i64 ext, .string body] w fun e w' => Got ext body w w' e := by
  have HB := Lib.hid (bk1 w 82 #[.int .i64 0, .int .i64 0, .int .i64 0, .slice none 0 0, .slice none 0 0])
  have hr : 0 ≤ ext ∧ ext ≤ 65535 := by simpa [in1] using h
  have k1 := fun V g hg => within_new 65535 V [ext] 1 g #[.int .i64 ext] rfl rfl hg (by simp)
  rw [show inB 65535 [ext] = true by simp [inB, h]] at k1
  have t1 : decide ((body.size : Int) < 4) = false := by simp; omega
  have kp := fun V => pair_any (body.extract 1 body.size) V (by rw [ByteArray.size_extract]; omega)
  rw [pw_extract body 1 _ (Nat.le_refl _) (by omega)] at kp
  have i0 : ∀ V : World, (Instr.index 9 (.string body) (.int .i64 0)).run Try.prog V = .ok (.int .u8 (at' body 0)) V := fun V => idx_at body 0 (by omega) V
  have i3 : ∀ V : World, (Instr.index 9 (.string body) (.int .i64 3)).run Try.prog V = .ok (.int .u8 (at' body 3)) V := fun V => idx_at body 3 (by omega) V
  have r0 := at_range body 0
  have r3 := at_range body 3
  have rp := pw_range body 1
  have o1 := or16 (at' body 0) (pw body 1) r0 rp
  have HPL := Lib.hid (show at' body 0 * 65536 + pw body 1 = platOf body from rfl)
  obtain ⟨b0, e0⟩ : ∃ x, at' body 0 = x := ⟨_, rfl⟩
  obtain ⟨b3, e3⟩ : ∃ x, at' body 3 = x := ⟨_, rfl⟩
  obtain ⟨y, ey⟩ : ∃ x, pw body 1 = x := ⟨_, rfl⟩
  obtain ⟨pl, epl⟩ : ∃ x, platOf body = x := ⟨_, rfl⟩
  have HX := Lib.hid (And.intro epl e3)
  rw [epl] at HPL
  rw [e0] at i0 r0 o1 HPL
  rw [e3] at i3 r3
  rw [ey] at kp o1 HPL rp
  rw [HPL.out] at o1
  have q0 : IntKind.i64.wrap b0 = b0 := by rw [IntKind.wrap_i64]; omega
  have q3 : IntKind.i64.wrap b3 = b3 := by rw [IntKind.wrap_i64]; omega
  have q4 : IntKind.i64.wrap (b0 * 65536) = b0 * 65536 := by rw [IntKind.wrap_i64]; omega
  have s1 : (1 : Int) ≤ body.size := by omega
  have s4 : (4 : Int) ≤ body.size := by omega
  have HRE := Lib.hid (show (riR body).1 ≠ 0 → riE ext body = (riR body).1 from fun hn => by simp [riE, h, h4, hn])
  have HRE2 := Lib.hid (show (riR body).1 = 0 → riE ext body = if riOK ext body then 0 else 12 from fun hn => by simp [riE, h, h4, hn])
  clear h h4 e0 e3 ey epl
  go_enter Try.func34, Try.ntmps34
  go_wp2_with fail
  refine wp_scope_one 0 (At ext body w) left rfl ?_ ?_
  · clear i0 i3 kp k1 q0 q3 q4 o1 HPL HX t1 r0 r3 rp s1 s4
    rintro a W ⟨B, gx, f, A, VS, t, v, u, rfl, hc2, hlen, hf, hrd⟩
    have HC := Lib.hid hc2
    obtain ⟨hwg, hgB, hBW, hown, hps, haw, hsm, hBk⟩ := hc2
    unfold frm
    have kt := take_any t W (by omega)
    have HPS := Lib.hid hps
    have HAW := Lib.hid haw
    have HRD := Lib.hid hrd
    have HSM := Lib.hid hsm
    have HBK := Lib.hid hBk
    obtain ⟨f', hf'⟩ : ∃ f', f = f' + 1 := ⟨f - 1, by omega⟩
    subst hf'
    have HLEN := Lib.hid (prsL_len (t.extract 2 (2 + pn t)))
    obtain ⟨TL, hTL⟩ : ∃ TL, tkL t = TL := ⟨_, rfl⟩
    obtain ⟨TR, hTR⟩ : ∃ TR, tkR t = TR := ⟨_, rfl⟩
    have hTLl : TL.length ≤ 4200 := by rw [← hTL]; unfold tkL; split; (simp); exact HLEN.out
    rw [hTL, hTR] at kt
    by_cases hz : tkE t = 0
    · have hsh := tk_shorter hz
      rw [hTR] at hsh
      have hstep : rdI (f' + 1) A t = if TR.size ≠ 0 ∨ (A.length + 1) % 2 = 0 then rdI f' (A ++ [TL]) TR else (0, A ++ [TL]) := by rw [rdI, if_neg (by simpa using hz), hTL, hTR]
      have HST := Lib.hid hstep
      rw [hz] at kt
      have hVA := hps.1
      clear hps haw hrd hsm hBk hstep hz hTL hTR
      go_wp2_with fail
      (with_reducible refine (kt).mono ?_); rintro e1 W1 ⟨ta, tc, rfl, ⟨hd, hfr⟩, hb1⟩
      have hown1 := own_below hown hb1
      have hbs1 := hb1.size
      have HD := Lib.hid hd
      have HFR := Lib.hid hfr
      have HB1 := Lib.hid hb1
      have hlV : VS.length ≤ 100000 := by omega
      by_cases hgo : TR.size ≠ 0 ∨ (VS.length + 1) % 2 = 0
      · by_cases hne : TR.size = 0
        · have t2 : TR.toList.isEmpty = true := by rw [isEmpty_iff]; simpa using hne
          obtain ⟨NN, hNN⟩ : ∃ NN, VS.length + 1 = NN := ⟨_, rfl⟩
          have e5 : (NN : Int).tmod 2 = 0 := by rw [Int.tmod_eq_emod_of_nonneg (by omega)]; omega
          have e6 : (NN : Int) % 2 = 0 := by omega
          have e7 : IntKind.i64.wrap ((NN : Int).tmod 2) = 0 := by rw [e5]; rfl
          clear kt hb1 hd hfr
          go_wp2_with (first
            | (at_builtin; go_loud (refine wpList_appG rfl _ _ rfl elemLL rfl (hown1.alloc (.cells #[.slice ta TL.length tc] 45)) rfl rfl (blk_news (Blk.new W1 45 #[.slice ta TL.length tc])) (by simp [Value.oneCell']) (by omega) (by unfold maxLen; omega) (by simp; omega) ?_)
               intro v9 w8 hown9 hgr9 hat9; rw [hNN] at hown9; obtain ⟨a9, c9, rfl⟩ := own_form hown9)
            | fail)
          go_step3
          have hgo2 : TR.size ≠ 0 ∨ (A.length + 1) % 2 = 0 := by rw [← hVA]; exact hgo
          have hr2 := HRD.out
          rw [HST.out, if_pos hgo2] at hr2
          exact ⟨rfl, at_intro (B := B) (gx := gx) (f := f') (A := A ++ [TL]) (VS := VS ++ [.slice ta TL.length tc]) (t := TR) (v := .slice a9 NN c9) (by kernel_rfl) ⟨cor2_step HC.out (HB1.out.alloc hbs1 _) (HD.out.below (Nat.le_refl _) ((Below.refl _ _).alloc (Nat.le_refl _) _)) HFR.out hTLl hNN.symm hown9 hgr9 hat9, by simp; omega, by omega, hr2⟩, by show TR.size < t.size; omega⟩
        · have t2 : TR.toList.isEmpty = false := by rw [isEmpty_iff]; simpa using hne
          clear kt hb1 hd hfr
          go_wp2_with (first
            | (at_builtin; go_loud (refine wpList_appG rfl _ _ rfl elemLL rfl (hown1.alloc (.cells #[.slice ta TL.length tc] 45)) rfl rfl (blk_news (Blk.new W1 45 #[.slice ta TL.length tc])) (by simp [Value.oneCell']) (by omega) (by unfold maxLen; omega) (by simp; omega) ?_)
               intro v9 w8 hown9 hgr9 hat9)
            | fail)
          go_step3
          have hgo2 : TR.size ≠ 0 ∨ (A.length + 1) % 2 = 0 := by rw [← hVA]; exact hgo
          have hr2 := HRD.out
          rw [HST.out, if_pos hgo2] at hr2
          exact ⟨rfl, at_intro (B := B) (gx := gx) (f := f') (A := A ++ [TL]) (VS := VS ++ [.slice ta TL.length tc]) (t := TR) (v := v9) (by kernel_rfl) ⟨cor2_step HC.out (HB1.out.alloc hbs1 _) (HD.out.below (Nat.le_refl _) ((Below.refl _ _).alloc (Nat.le_refl _) _)) HFR.out hTLl rfl hown9 hgr9 hat9, by simp; omega, by omega, hr2⟩, by show TR.size < t.size; omega⟩
      · have hne : TR.size = 0 := by omega
        have t2 : TR.toList.isEmpty = true := by rw [isEmpty_iff]; simpa using hne
        obtain ⟨NN, hNN⟩ : ∃ NN, VS.length + 1 = NN := ⟨_, rfl⟩
        have e5 : (NN : Int).tmod 2 = 1 := by rw [Int.tmod_eq_emod_of_nonneg (by omega)]; omega
        have e6 : (NN : Int) % 2 = 1 := by omega
        have e7 : IntKind.i64.wrap ((NN : Int).tmod 2) = 1 := by rw [e5]; rfl
        clear kt hb1 hd hfr
        go_upto_region 13 with (first
          | (at_builtin; go_loud (refine wpList_appG rfl _ _ rfl elemLL rfl (hown1.alloc (.cells #[.slice ta TL.length tc] 45)) rfl rfl (blk_news (Blk.new W1 45 #[.slice ta TL.length tc])) (by simp [Value.oneCell']) (by omega) (by unfold maxLen; omega) (by simp; omega) ?_)
             intro v9 w8 hown9 hgr9 hat9; rw [hNN] at hown9; obtain ⟨g9, c9, rfl, -, -⟩ := hown9.form (by omega))
          | fail)
        have HC8 := Lib.hid (cor2_step HC.out (HB1.out.alloc hbs1 _) (HD.out.below (Nat.le_refl _) ((Below.refl _ _).alloc (Nat.le_refl _) _)) HFR.out hTLl hNN.symm hown9 hgr9 hat9)
        have HSM8 := Lib.hid HC8.out.2.2.2.2.2.2.1
        obtain ⟨XS, hXS⟩ : ∃ XS, VS ++ [.slice ta TL.length tc] = XS := ⟨_, rfl⟩
        obtain ⟨AA, hAA⟩ : ∃ AA, A ++ [TL] = AA := ⟨_, rfl⟩
        have hXN : XS.length = NN := by rw [← hXS]; simp; omega
        have hRR : riR body = (0, AA) := by
          rw [HRD.out, HST.out, if_neg (by rw [← hVA]; exact hgo), hAA]
        rw [hXS, hAA] at HC8
        rw [hAA] at HSM8
        have hN0 : 0 < NN := by omega
        obtain ⟨iv, hiv⟩ : ∃ iv, XS[0]? = some iv := ⟨_, List.getElem?_eq_getElem (by omega)⟩
        obtain ⟨ia, im, ic, rfl⟩ := HC8.out.2.2.2.2.1.sl (List.mem_of_getElem? hiv)
        obtain ⟨hst, haw8, hc3⟩ := cor3_start (iv := .slice ia im ic) HC8.out hXN
        have c0 : w8.cell? ⟨g9, 0, none⟩ = some (.slice ia im ic) := by
          have h4 := HC8.out.2.2.2.1
          rw [hXN] at h4
          rw [h4.cellAt 0 (by omega)]
          exact flat_get en1_len hiv (j := 0) rfl
        have zg0 := Blk.cell (HC8.out.2.2.2.2.2.2.2.nth 0 rfl) 0 (v := .int .i64 (ext / 256)) rfl
        have zg1 := Blk.cell (HC8.out.2.2.2.2.2.2.2.nth 0 rfl) 1 (v := .int .i64 (platOf body)) rfl
        have zg2 := Blk.cell (HC8.out.2.2.2.2.2.2.2.nth 0 rfl) 2 (v := .int .i64 (at' body 3)) rfl
        have zg3 := Blk.cell (HC8.out.2.2.2.2.2.2.2.nth 0 rfl) 3 (v := .slice none 0 0) rfl
        have zg4 := Blk.cell (HC8.out.2.2.2.2.2.2.2.nth 0 rfl) 4 (v := .slice none 0 0) rfl
        have zf0 := Blk.frozen (HC8.out.2.2.2.2.2.2.2.nth 0 rfl) 0
        have zf1 := Blk.frozen (HC8.out.2.2.2.2.2.2.2.nth 0 rfl) 1
        have zf2 := Blk.frozen (HC8.out.2.2.2.2.2.2.2.nth 0 rfl) 2
        have zf3 := Blk.frozen (HC8.out.2.2.2.2.2.2.2.nth 0 rfl) 3
        have zf4 := Blk.frozen (HC8.out.2.2.2.2.2.2.2.nth 0 rfl) 4
        have HC3 := Lib.hid hc3
        have HXN := Lib.hid hXN
        have HRR := Lib.hid hRR
        have HAW8 := Lib.hid haw8
        have HIV := Lib.hid hiv
        have HST2 := Lib.hid hst
        have m0 : (0 : Int) < (NN : Int) := by omega
        have hNNb : NN ≤ 100002 := by omega
        clear hc3 hXN hRR haw8 hiv hst hXS hAA hown hown1 hown9 hgr9 hat9 hVA hgo hNN hne
        go_wp2_with fail
        go_loopw [12] (fun i wr => ∃ (j : Nat) (ea : Option Addr) (ec I : Nat), 2 * j + 1 = I ∧ I ≤ NN ∧ i = .int .i64 (I : Int) ∧ Cor3 ext body w w8.heap.size B gx g9 NN c9 XS AA (.slice ia im ic) wr j ea ec) (fun i _ => NN - (intOf i).toNat)
        case atStart => exact ⟨0, none, 0, 1, rfl, by omega, rfl, HC3.out⟩
        case round =>
          obtain ⟨j, ea, ec, I, hI, hIN, rfl, hc⟩ := hrel
          have HCj := Lib.hid hc
          obtain ⟨h1, h2, h3, h4, h5⟩ := hc
          by_cases hlt : I < NN
          · have t0 : decide ((I : Int) < (NN : Int)) = true := by simp; omega
            have hodd : I + 1 < NN := by omega
            obtain ⟨v1, hv1⟩ : ∃ v, XS[I]? = some v := ⟨_, List.getElem?_eq_getElem (by rw [HXN.out]; omega)⟩
            obtain ⟨v2, hv2⟩ : ∃ v, XS[I + 1]? = some v := ⟨_, List.getElem?_eq_getElem (by rw [HXN.out]; omega)⟩
            obtain ⟨a1, n1, q1, rfl⟩ := h3.sl (List.mem_of_getElem? hv1)
            obtain ⟨a2, n2, q2, rfl⟩ := h3.sl (List.mem_of_getElem? hv2)
            have hg9s := (h2.lt g9 rfl).2
            have c1 := fun p => cell_ext (p := p) (a := ⟨g9, I, none⟩) hg9s (by rw [h2.cellAt I (by omega)]; have := flat_get en1_len hv1 (j := 0) rfl; rwa [Nat.mul_one, Nat.add_zero] at this)
            have c2 := fun p => cell_ext (p := p) (a := ⟨g9, I + 1, none⟩) hg9s (by rw [h2.cellAt (I + 1) (by omega)]; have := flat_get en1_len hv2 (j := 0) rfl; rwa [Nat.mul_one, Nat.add_zero] at this)
            have zg0 := fun pX => Blk.cell (blk_ext (h5.nth 0 rfl) pX) 0 (v := .int .i64 (ext / 256)) rfl
            have zg1 := fun pX => Blk.cell (blk_ext (h5.nth 0 rfl) pX) 1 (v := .int .i64 (platOf body)) rfl
            have zg2 := fun pX => Blk.cell (blk_ext (h5.nth 0 rfl) pX) 2 (v := .int .i64 (at' body 3)) rfl
            have zg3 := fun pX => Blk.cell (blk_ext (h5.nth 0 rfl) pX) 3 (v := .slice ia im ic) rfl
            have zg4 := fun pX => Blk.cell (blk_ext (h5.nth 0 rfl) pX) 4 (v := .slice ea j ec) rfl
            have HEN := Lib.hid (show ents XS (j + 1) = ents XS j ++ [(.slice a1 n1 q1, .slice a2 n2 q2)] by rw [ents_snoc, show 2 * j + 1 = I by omega, show 2 * j + 2 = I + 1 by omega, hv1, hv2]; rfl)
            have m1 : (0 : Int) ≤ (I : Int) := by omega
            have m2 : (I : Int) < (NN : Int) := by omega
            have m3 : (I : Int) + 1 < (NN : Int) := by omega
            have m4 : (NN : Int) ≤ 100002 := by omega
            clear hv1 hv2 h2 h3 h5 hg9s
            go_wp2_with fail
            refine Go.Proofs.Ytbceakdifklocaa.Rg.region_new [(12, newS 1 116 #[.slice a1 n1 q1, .slice a2 n2 q2] 0)] 13 (by kernel_rfl) (by kernel_rfl) (by kernel_rfl) (lk_cons newS_inh lk_nil) (lk_cons newS_mono lk_nil) ?_
            intro σ hσ
            simp only [List.take_succ_cons, List.take_zero, List.drop_succ_cons, List.drop_zero]
            refine Go.Proofs.Ytbceakdifklocaa.Rg.wpN_take 12 (by kernel_rfl) (by kernel_rfl) (by kernel_rfl) ?_
            simp only [List.take_succ_cons, List.take_zero, List.drop_succ_cons, List.drop_zero]
            repeat (go_big_quiet_step (fail))
            refine wpQuiet_nil ?_
            refine Go.Proofs.Ytbceakdifklocaa.Rg.wpN_sp _ rfl (by kernel_rfl) (spAt_newS 1 116 #[.slice a1 n1 q1, .slice a2 n2 q2] (Nat.zero_le _) (by intro w0; go_simp)) ?_
            simp only [Act.put, List.setIfInBounds_toArray, List.set_cons_zero, List.set_cons_succ]
            refine Go.Proofs.Ytbceakdifklocaa.Rg.wpN_nil ?_
            rintro w9 ⟨pq, rfl⟩ hp
            obtain ⟨gn, hgn, _, hbn⟩ := hp 12 _ rfl
            rw [hgn]
            clear hp hσ
            have hown0 := own_below h4 (below_ext _ pq)
            have hsz0 := (below_ext wr pq).size
            refine wpList_appG rfl _ _ rfl elemE rfl hown0 rfl rfl (blk_news hbn) (by simp [Value.oneCell']) (by omega) (by unfold maxLen; omega) (by omega) ?_
            intro v9 w7 hown9 hgr9 hat9
            obtain ⟨gg, cap, rfl, -, -⟩ := hown9.form (by omega)
            have hown3 : w7.ownsRow w8.heap.size 116 2 (.slice (some ⟨gg, 0, none⟩) (j + 1) cap) (j + 1) (flat en2 (ents XS (j + 1))) := by rw [HEN.out, flat_app]; exact hown9
            have hG := cor3_blk HCj.out HST2.out (below_ext wr pq) hgr9
            have hC9 := Lib.hid (cor3_step HCj.out HST2.out HAW8.out (below_ext wr pq) hgr9 hown3)
            clear zg0 zg1 zg2 zg3 zg4
            have zg0 := Blk.cell (hG) 0 (v := .int .i64 (ext / 256)) rfl
            have zg1 := Blk.cell (hG) 1 (v := .int .i64 (platOf body)) rfl
            have zg2 := Blk.cell (hG) 2 (v := .int .i64 (at' body 3)) rfl
            have zg3 := Blk.cell (hG) 3 (v := .slice ia im ic) rfl
            have zg4 := Blk.cell (hG) 4 (v := .slice ea j ec) rfl
            have zf0 := Blk.frozen (hG) 0
            have zf1 := Blk.frozen (hG) 1
            have zf2 := Blk.frozen (hG) 2
            have zf3 := Blk.frozen (hG) 3
            have zf4 := Blk.frozen (hG) 4
            clear hown0 hown3 hown9 hgr9 hat9 hbn hgn c1 c2 h4 hG
            go_wp2_with fail
            go_roundw
            case rel => exact ⟨j + 1, some ⟨gg, 0, none⟩, cap, I + 2, by omega, by omega, by go_num, hC9.out⟩
            case measure => simp [intOf]; omega
          · obtain rfl : I = NN := by omega
            have t0 : decide ((I : Int) < (I : Int)) = false := by simp
            have hlv : lvs (.slice ia im ic) (ents XS j) = XS := by rw [lvs_ents HIV.out j (by rw [HXN.out]; omega)]; exact List.take_of_length_le (by rw [HXN.out]; omega)
            have HLV := Lib.hid hlv
            have kb := body_any (ext / 256) (platOf body) (at' body 3) (.slice ia im ic) ea j ec (ents XS j) AA wr (ents_len XS j) (by omega) (by rw [hlv]; exact h3) (fun L hL => by have := HSM8.out L hL; omega) (own_seq en2_len h4 (ents_len XS j))
            have ke := fun V => ext_any (ext / 256) (platOf body) (at' body 3) (.slice ia im ic) (.slice ea j ec) V ⟨ia, im, ic, rfl⟩ ⟨ea, j, ec, rfl⟩
            have hok : riE ext body = if bodyE (ext / 256) (platOf body) (at' body 3) AA = 0 ∧ bodyS (ext / 256) (platOf body) (at' body 3) AA = body ∧ extN (ext / 256) (platOf body) (at' body 3) = ext then 0 else 12 := by
              have hiff : riOK ext body ↔ (bodyE (ext / 256) (platOf body) (at' body 3) AA = 0 ∧ bodyS (ext / 256) (platOf body) (at' body 3) AA = body ∧ extN (ext / 256) (platOf body) (at' body 3) = ext) := by unfold riOK; rw [HRR.out]
              rw [HRE2.out (by rw [HRR.out])]
              by_cases hh : riOK ext body
              · rw [if_pos hh, if_pos (hiff.1 hh)]
              · rw [if_neg hh, if_neg (mt hiff.2 hh)]
            obtain ⟨BE, hBE⟩ : ∃ x, bodyE (ext / 256) (platOf body) (at' body 3) AA = x := ⟨_, rfl⟩
            obtain ⟨BS, hBS⟩ : ∃ x, bodyS (ext / 256) (platOf body) (at' body 3) AA = x := ⟨_, rfl⟩
            obtain ⟨EX, hEX⟩ : ∃ x, extN (ext / 256) (platOf body) (at' body 3) = x := ⟨_, rfl⟩
            rw [hBE, hBS] at kb
            rw [hEX] at ke
            rw [hBE, hBS, hEX] at hok
            have HOK := Lib.hid hok
            have zg0 := Blk.cell (h5.nth 0 rfl) 0 (v := .int .i64 (ext / 256)) rfl
            have zg1 := Blk.cell (h5.nth 0 rfl) 1 (v := .int .i64 (platOf body)) rfl
            have zg2 := Blk.cell (h5.nth 0 rfl) 2 (v := .int .i64 (at' body 3)) rfl
            have zg3 := Blk.cell (h5.nth 0 rfl) 3 (v := .slice ia im ic) rfl
            have zg4 := Blk.cell (h5.nth 0 rfl) 4 (v := .slice ea j ec) rfl
            clear hBE hBS hEX hok hlv h2 h3 h4 h5
            go_wp2_with fail
            (with_reducible refine (kb).mono ?_); rintro e1 W2 ⟨rfl, hb2⟩
            have HC2 := Lib.hid (cor3_below HCj.out hb2)
            have hB2 := HC2.out.2.2.2.2
            clear zg0 zg1 zg2 zg3 zg4 kb hb2
            by_cases g1 : BE = 0
            · subst g1
              by_cases g2 : BS = body
              · subst g2
                have zg0 := Blk.cell (hB2.nth 0 rfl) 0 (v := .int .i64 (ext / 256)) rfl
                have zg1 := Blk.cell (hB2.nth 0 rfl) 1 (v := .int .i64 (platOf BS)) rfl
                have zg2 := Blk.cell (hB2.nth 0 rfl) 2 (v := .int .i64 (at' BS 3)) rfl
                have zg3 := Blk.cell (hB2.nth 0 rfl) 3 (v := .slice ia im ic) rfl
                have zg4 := Blk.cell (hB2.nth 0 rfl) 4 (v := .slice ea j ec) rfl
                clear hB2
                go_wp2_with fail
                (with_reducible refine (ke _).mono ?_); rintro e1 W3 ⟨rfl, hb3⟩
                have HC4 := Lib.hid (cor3_below HC2.out hb3)
                have hB3 := HC4.out.2.2.2.2
                clear zg0 zg1 zg2 zg3 zg4 ke hb3
                by_cases g3 : EX = ext
                · subst g3
                  have HE := Lib.hid (show riE EX BS = 0 by rw [HOK.out]; simp)
                  have zg0 := Blk.cell (hB3.nth 0 rfl) 0 (v := .int .i64 (EX / 256)) rfl
                  have zg1 := Blk.cell (hB3.nth 0 rfl) 1 (v := .int .i64 (platOf BS)) rfl
                  have zg2 := Blk.cell (hB3.nth 0 rfl) 2 (v := .int .i64 (at' BS 3)) rfl
                  have zg3 := Blk.cell (hB3.nth 0 rfl) 3 (v := .slice ia im ic) rfl
                  have zg4 := Blk.cell (hB3.nth 0 rfl) 4 (v := .slice ea j ec) rfl
                  have z0 := Blk.cell (hB3.nth 1 rfl) 0 (v := .int .i64 0) rfl
                  have z1 := Blk.cell (hB3.nth 1 rfl) 1 (v := .int .i64 0) rfl
                  have z2 := Blk.cell (hB3.nth 1 rfl) 2 (v := .int .i64 0) rfl
                  have z3 := Blk.cell (hB3.nth 1 rfl) 3 (v := .slice none 0 0) rfl
                  have z4 := Blk.cell (hB3.nth 1 rfl) 4 (v := .slice none 0 0) rfl
                  have zf0 := Blk.frozen (hB3.nth 1 rfl) 0
                  have zf1 := Blk.frozen (hB3.nth 1 rfl) 1
                  have zf2 := Blk.frozen (hB3.nth 1 rfl) 2
                  have zf3 := Blk.frozen (hB3.nth 1 rfl) 3
                  have zf4 := Blk.frozen (hB3.nth 1 rfl) 4
                  clear hB3
                  go_wp2_with fail
                  refine (show Exit.noGoto _ Exit.ret _ _ from ?_)
                  rw [Exit.noGoto_ret]
                  refine bp_gen (fun V => Blk V w.heap.size 82 #[.int .i64 (EX / 256), .int .i64 (platOf BS), .int .i64 (at' BS 3), .slice ia im ic, .slice ea j ec] ∧ Below w.heap.size w V ∧ Lps V XS AA ∧ Seq en2 2 V ea (ents XS j)) (cor3_end HC4.out HST2.out HAW8.out (.int .i64 (EX / 256)) (.int .i64 (platOf BS)) (.int .i64 (at' BS 3)) (.slice ia im ic) (.slice ea j ec)) ?_
                  rintro V ⟨hV, hVE, hVL, hVS⟩
                  exact bodyPost_ret (v := .tuple #[.agg #[.int .i64 (EX / 256), .int .i64 (platOf BS), .int .i64 (at' BS 3), .slice ia im ic, .slice ea j ec], .int .i64 0]) (by simp [results, Try.results34, go_sem, Blk.cell hV 0 (v := .int .i64 (EX / 256)) rfl, Blk.cell hV 1 (v := .int .i64 (platOf BS)) rfl, Blk.cell hV 2 (v := .int .i64 (at' BS 3)) rfl, Blk.cell hV 3 (v := .slice ia im ic) rfl, Blk.cell hV 4 (v := .slice ea j ec) rfl]) rfl ⟨⟨#[.int .i64 (EX / 256), .int .i64 (platOf BS), .int .i64 (at' BS 3), .slice ia im ic, .slice ea j ec], by rw [HE.out], fun h => absurd HE.out h, fun _ => ⟨.slice ia im ic, ea, j, ec, ents XS j, rfl, ents_len XS j, by rw [HLV.out, HRR.out]; exact hVL, hVS⟩⟩, hVE⟩
                · have t1 : (EX != ext) = true := by simpa using g3
                  have HE := Lib.hid (show riE ext BS = 12 by rw [HOK.out, if_neg (fun h => g3 h.2.2)])
                  have HB1 := Lib.hid (show Bk w W3 [(w.heap.size, 82, #[.int .i64 0, .int .i64 0, .int .i64 0, .slice none 0 0, .slice none 0 0])] from ⟨hB3.be, fun x hx => hB3.all x (List.mem_cons_of_mem _ hx)⟩)
                  have z0 := Blk.cell (HB1.out.nth 0 rfl) 0 (v := .int .i64 0) rfl
                  have z1 := Blk.cell (HB1.out.nth 0 rfl) 1 (v := .int .i64 0) rfl
                  have z2 := Blk.cell (HB1.out.nth 0 rfl) 2 (v := .int .i64 0) rfl
                  have z3 := Blk.cell (HB1.out.nth 0 rfl) 3 (v := .slice none 0 0) rfl
                  have z4 := Blk.cell (HB1.out.nth 0 rfl) 4 (v := .slice none 0 0) rfl
                  have zf0 := Blk.frozen (HB1.out.nth 0 rfl) 0
                  have zf1 := Blk.frozen (HB1.out.nth 0 rfl) 1
                  have zf2 := Blk.frozen (HB1.out.nth 0 rfl) 2
                  have zf3 := Blk.frozen (HB1.out.nth 0 rfl) 3
                  have zf4 := Blk.frozen (HB1.out.nth 0 rfl) 4
                  clear hB3 g3
                  go_wp2_with fail
                  refine (show Exit.noGoto _ Exit.ret _ _ from ?_)
                  have hS := (row_set [.int .i64 0, .int .i64 0, .int .i64 0, .slice none 0 0, .slice none 0 0] (HB1.out.nth 0 rfl)).1
                  have hE := Go.Proofs.Ytbceakdifklocaa.Rg.below_setCells (Nat.le_refl w.heap.size) [.int .i64 0, .int .i64 0, .int .i64 0, .slice none 0 0, .slice none 0 0] 0 w _ HB1.out.be
                  rw [Exit.noGoto_ret]
                  refine bp_gen (fun V => Blk V w.heap.size 82 #[.int .i64 0, .int .i64 0, .int .i64 0, .slice none 0 0, .slice none 0 0] ∧ Below w.heap.size w V) ⟨hS, hE⟩ ?_
                  intro V ⟨hV, hVE⟩
                  exact bodyPost_ret (v := .tuple #[.agg zeroI, .int .i64 12]) (by simp [results, Try.results34, go_sem, zeroI, Blk.cell hV 0 (v := .int .i64 0) rfl, Blk.cell hV 1 (v := .int .i64 0) rfl, Blk.cell hV 2 (v := .int .i64 0) rfl, Blk.cell hV 3 (v := .slice none 0 0) rfl, Blk.cell hV 4 (v := .slice none 0 0) rfl]) rfl ⟨⟨zeroI, by rw [HE.out], fun _ => rfl, fun h => by rw [HE.out] at h; omega⟩, hVE⟩
              · have t1 : (BS.toList != body.toList) = true := by rw [bne, bytes_eq]; simpa using g2
                have t1' : (BS.toList == body.toList) = false := by rw [bytes_eq]; simpa using g2
                have HE := Lib.hid (show riE ext body = 12 by rw [HOK.out, if_neg (fun h => g2 h.2.1)])
                have HB1 := Lib.hid (show Bk w W2 [(w.heap.size, 82, #[.int .i64 0, .int .i64 0, .int .i64 0, .slice none 0 0, .slice none 0 0])] from ⟨hB2.be, fun x hx => hB2.all x (List.mem_cons_of_mem _ hx)⟩)
                have z0 := Blk.cell (HB1.out.nth 0 rfl) 0 (v := .int .i64 0) rfl
                have z1 := Blk.cell (HB1.out.nth 0 rfl) 1 (v := .int .i64 0) rfl
                have z2 := Blk.cell (HB1.out.nth 0 rfl) 2 (v := .int .i64 0) rfl
                have z3 := Blk.cell (HB1.out.nth 0 rfl) 3 (v := .slice none 0 0) rfl
                have z4 := Blk.cell (HB1.out.nth 0 rfl) 4 (v := .slice none 0 0) rfl
                have zf0 := Blk.frozen (HB1.out.nth 0 rfl) 0
                have zf1 := Blk.frozen (HB1.out.nth 0 rfl) 1
                have zf2 := Blk.frozen (HB1.out.nth 0 rfl) 2
                have zf3 := Blk.frozen (HB1.out.nth 0 rfl) 3
                have zf4 := Blk.frozen (HB1.out.nth 0 rfl) 4
                clear hB2 g2
                go_wp2_with fail
                refine (show Exit.noGoto _ Exit.ret _ _ from ?_)
                have hS := (row_set [.int .i64 0, .int .i64 0, .int .i64 0, .slice none 0 0, .slice none 0 0] (HB1.out.nth 0 rfl)).1
                have hE := Go.Proofs.Ytbceakdifklocaa.Rg.below_setCells (Nat.le_refl w.heap.size) [.int .i64 0, .int .i64 0, .int .i64 0, .slice none 0 0, .slice none 0 0] 0 w _ HB1.out.be
                rw [Exit.noGoto_ret]
                refine bp_gen (fun V => Blk V w.heap.size 82 #[.int .i64 0, .int .i64 0, .int .i64 0, .slice none 0 0, .slice none 0 0] ∧ Below w.heap.size w V) ⟨hS, hE⟩ ?_
                intro V ⟨hV, hVE⟩
                exact bodyPost_ret (v := .tuple #[.agg zeroI, .int .i64 12]) (by simp [results, Try.results34, go_sem, zeroI, Blk.cell hV 0 (v := .int .i64 0) rfl, Blk.cell hV 1 (v := .int .i64 0) rfl, Blk.cell hV 2 (v := .int .i64 0) rfl, Blk.cell hV 3 (v := .slice none 0 0) rfl, Blk.cell hV 4 (v := .slice none 0 0) rfl]) rfl ⟨⟨zeroI, by rw [HE.out], fun _ => rfl, fun h => by rw [HE.out] at h; omega⟩, hVE⟩
            · have t1 : (BE != 0) = true := by simpa using g1
              have HE := Lib.hid (show riE ext body = 12 by rw [HOK.out, if_neg (fun h => g1 h.1)])
              have HB1 := Lib.hid (show Bk w W2 [(w.heap.size, 82, #[.int .i64 0, .int .i64 0, .int .i64 0, .slice none 0 0, .slice none 0 0])] from ⟨hB2.be, fun x hx => hB2.all x (List.mem_cons_of_mem _ hx)⟩)
              have z0 := Blk.cell (HB1.out.nth 0 rfl) 0 (v := .int .i64 0) rfl
              have z1 := Blk.cell (HB1.out.nth 0 rfl) 1 (v := .int .i64 0) rfl
              have z2 := Blk.cell (HB1.out.nth 0 rfl) 2 (v := .int .i64 0) rfl
              have z3 := Blk.cell (HB1.out.nth 0 rfl) 3 (v := .slice none 0 0) rfl
              have z4 := Blk.cell (HB1.out.nth 0 rfl) 4 (v := .slice none 0 0) rfl
              have zf0 := Blk.frozen (HB1.out.nth 0 rfl) 0
              have zf1 := Blk.frozen (HB1.out.nth 0 rfl) 1
              have zf2 := Blk.frozen (HB1.out.nth 0 rfl) 2
              have zf3 := Blk.frozen (HB1.out.nth 0 rfl) 3
              have zf4 := Blk.frozen (HB1.out.nth 0 rfl) 4
              clear hB2 g1
              go_wp2_with fail
              refine (show Exit.noGoto _ Exit.ret _ _ from ?_)
              have hS := (row_set [.int .i64 0, .int .i64 0, .int .i64 0, .slice none 0 0, .slice none 0 0] (HB1.out.nth 0 rfl)).1
              have hE := Go.Proofs.Ytbceakdifklocaa.Rg.below_setCells (Nat.le_refl w.heap.size) [.int .i64 0, .int .i64 0, .int .i64 0, .slice none 0 0, .slice none 0 0] 0 w _ HB1.out.be
              rw [Exit.noGoto_ret]
              refine bp_gen (fun V => Blk V w.heap.size 82 #[.int .i64 0, .int .i64 0, .int .i64 0, .slice none 0 0, .slice none 0 0] ∧ Below w.heap.size w V) ⟨hS, hE⟩ ?_
              intro V ⟨hV, hVE⟩
              exact bodyPost_ret (v := .tuple #[.agg zeroI, .int .i64 12]) (by simp [results, Try.results34, go_sem, zeroI, Blk.cell hV 0 (v := .int .i64 0) rfl, Blk.cell hV 1 (v := .int .i64 0) rfl, Blk.cell hV 2 (v := .int .i64 0) rfl, Blk.cell hV 3 (v := .slice none 0 0) rfl, Blk.cell hV 4 (v := .slice none 0 0) rfl]) rfl ⟨⟨zeroI, by rw [HE.out], fun _ => rfl, fun h => by rw [HE.out] at h; omega⟩, hVE⟩
    · have hE : riE ext body = tkE t := by
        have h1 : (riR body).1 = tkE t := by rw [HRD.out, rdI, if_pos hz]
        rw [HRE.out (by rw [h1]; exact hz), h1]
      have HE := Lib.hid hE
      obtain ⟨ER, hER⟩ : ∃ ER, tkE t = ER := ⟨_, rfl⟩
      rw [hER] at HE kt hz
      have t1 : (ER != 0) = true := by simpa using hz
      clear hps haw hrd hsm hBk hTL hTR hER hE
      go_wp2_with fail
      (with_reducible refine (kt).mono ?_); rintro e1 W1 ⟨ta, tc, rfl, ⟨hd, hfr⟩, hb1⟩
      have HB1 := Lib.hid (show Bk w W1 [(w.heap.size, 82, #[.int .i64 0, .int .i64 0, .int .i64 0, .slice none 0 0, .slice none 0 0])] from ⟨(HBK.out.below hb1).be, fun x hx => (HBK.out.below hb1).all x (List.mem_cons_of_mem _ hx)⟩)
      have z0 := Blk.cell (HB1.out.nth 0 rfl) 0 (v := .int .i64 0) rfl
      have z1 := Blk.cell (HB1.out.nth 0 rfl) 1 (v := .int .i64 0) rfl
      have z2 := Blk.cell (HB1.out.nth 0 rfl) 2 (v := .int .i64 0) rfl
      have z3 := Blk.cell (HB1.out.nth 0 rfl) 3 (v := .slice none 0 0) rfl
      have z4 := Blk.cell (HB1.out.nth 0 rfl) 4 (v := .slice none 0 0) rfl
      have zf0 := Blk.frozen (HB1.out.nth 0 rfl) 0
      have zf1 := Blk.frozen (HB1.out.nth 0 rfl) 1
      have zf2 := Blk.frozen (HB1.out.nth 0 rfl) 2
      have zf3 := Blk.frozen (HB1.out.nth 0 rfl) 3
      have zf4 := Blk.frozen (HB1.out.nth 0 rfl) 4
      clear hb1 kt hd hfr
      go_wp2_with fail
      refine (show Exit.noGoto _ Exit.ret _ _ from ?_)
      have hS := (row_set [.int .i64 0, .int .i64 0, .int .i64 0, .slice none 0 0, .slice none 0 0] (HB1.out.nth 0 rfl)).1
      have hE := Go.Proofs.Ytbceakdifklocaa.Rg.below_setCells (Nat.le_refl w.heap.size) [.int .i64 0, .int .i64 0, .int .i64 0, .slice none 0 0, .slice none 0 0] 0 w _ HB1.out.be
      rw [Exit.noGoto_ret]
      refine bp_gen (fun V => Blk V w.heap.size 82 #[.int .i64 0, .int .i64 0, .int .i64 0, .slice none 0 0, .slice none 0 0] ∧ Below w.heap.size w V) ⟨hS, hE⟩ ?_
      intro V ⟨hV, hVE⟩
      exact bodyPost_ret (v := .tuple #[.agg zeroI, .int .i64 ER]) (by simp [results, Try.results34, go_sem, zeroI, Blk.cell hV 0 (v := .int .i64 0) rfl, Blk.cell hV 1 (v := .int .i64 0) rfl, Blk.cell hV 2 (v := .int .i64 0) rfl, Blk.cell hV 3 (v := .slice none 0 0) rfl, Blk.cell hV 4 (v := .slice none 0 0) rfl]) rfl ⟨⟨zeroI, by rw [HE.out], fun _ => rfl, fun h => by rw [HE.out] at h; omega⟩, hVE⟩
  · intro bd
    go_wp2_with fail
    (with_reducible refine (k1 _ _ (by simp)).mono ?_); rintro e1 W1 ⟨rfl, hb1⟩
    have HB1 := Lib.hid (HB.out.below hb1)
    clear HB hb1 k1
    go_wp2_with fail
    refine Go.Proofs.Ytbceakdifklocaa.Rg.region_new [(8, val (.int .i64 y)), (14, newB 82 #[.int .i64 0, .int .i64 0, .int .i64 0, .slice none 0 0, .slice none 0 0] W1.heap.size)] 15 (by kernel_rfl) (by kernel_rfl) (by kernel_rfl) (lk_cons val_inh (lk_cons newB_inh lk_nil)) (lk_cons val_mono (lk_cons newB_mono lk_nil)) ?_
    intro σ hσ
    simp only [List.take_succ_cons, List.take_zero, List.drop_succ_cons, List.drop_zero]
    have hs8 : σ 8 = .int .i64 y := hσ 8 _ rfl
    refine Go.Proofs.Ytbceakdifklocaa.Rg.wpN_take 8 (by kernel_rfl) (by kernel_rfl) (by kernel_rfl) ?_
    simp only [List.take_succ_cons, List.take_zero, List.drop_succ_cons, List.drop_zero]
    repeat (go_big_quiet_step (fail))
    refine wpQuiet_nil ?_
    refine wpN_sp _ rfl (by kernel_rfl) (spAt_val (f := 49) (args := #[.string (body.extract 1 body.size)]) (by intro w0; go_simp) (fun p _ => kp _)) ?_
    simp only [Act.put, List.setIfInBounds_toArray, List.set_cons_zero, List.set_cons_succ]
    rw [hs8]
    refine Go.Proofs.Ytbceakdifklocaa.Rg.wpN_take 5 (by kernel_rfl) (by kernel_rfl) (by kernel_rfl) ?_
    simp only [List.take_succ_cons, List.take_zero, List.drop_succ_cons, List.drop_zero]
    repeat (go_big_quiet_step (fail))
    refine wpQuiet_nil ?_
    refine wpN_sp _ rfl (by kernel_rfl) (spAt_newB 82 #[.int .i64 0, .int .i64 0, .int .i64 0, .slice none 0 0, .slice none 0 0] (Nat.le_refl _) (fun _ => rfl)) ?_
    simp only [Act.put, List.setIfInBounds_toArray, List.set_cons_zero, List.set_cons_succ]
    refine wpN_nil ?_
    rintro w9 ⟨pq, rfl⟩ hp
    obtain ⟨gx, hgx, hgl, hgb⟩ := hp 14 _ rfl
    rw [hgx]
    refine wpList_store_blk (cs' := #[.int .i64 (ext / 256), .int .i64 pl, .int .i64 b3, .slice none 0 0, .slice none 0 0]) rfl 82 _ _ rfl rfl rfl hgb rfl rfl (by kernel_rfl) (by kernel_rfl) ?_
    intro V hV hgr hsz
    have hw1 := HB1.out.lt 0 rfl
    have HB2 := HB1.out.px pq
    have hBk : Bk w V [(gx, 82, #[.int .i64 (ext / 256), .int .i64 pl, .int .i64 b3, .slice none 0 0, .slice none 0 0]), (w.heap.size, 82, #[.int .i64 0, .int .i64 0, .int .i64 0, .slice none 0 0, .slice none 0 0])] := ⟨HB2.be.trans (below_of_only hgr HB2.size (fun k hk => by injection hk with hk; omega)), fun x hx => by
      rcases List.mem_cons.1 hx with rfl | hx
      · exact hV
      · rcases List.mem_cons.1 hx with rfl | hx
        · exact Blk.grown (HB2.nth 0 rfl) hgr (by simp; omega)
        · cases hx⟩
    have HBK := Lib.hid hBk
    have hgV := Blk.lt hV
    clear hV hgr hBk HB2 hgb hp hσ hs8 kp i0 i3 q0 q3 q4 o1 hsz hgx
    go_wp2_with fail
    go_step3
    rename_i hK
    refine hK _ _ ?_
    have hx := HX.out
    have zx : (body.extract 4 body.size).size ≤ body.size := by rw [ByteArray.size_extract]; omega
    exact bd _ _ (at_intro (B := V.heap.size) (gx := gx) (f := body.size + 1) (A := []) (VS := []) (t := body.extract 4 body.size) (v := .slice none 0 0) (by kernel_rfl) ⟨⟨by omega, hgV, Nat.le_refl _, World.ownsRow_nil _ _ _ _, ⟨rfl, fun i v L h => by simp at h⟩, fun i a n c h => by simp at h, fun L h => (by cases h), by rw [hx.1, hx.2]; exact HBK.out⟩, by simp, by omega, rfl⟩)

end Go.Proofs.Ytbceakdifklocaa.DuE
