/- What is known of a frame, in whatever order it came; its rows are words (plain). -/
import Derived.Test.YtlocgilgdnhnlaaGreatDoorLaP
import Derived.Test.YtlocgilgdnhnlaaGreatDoorTbW
namespace Go.Proofs.YtlocgilgdnhnlaaGreatDoor.LaQ
open Go Go.Proofs.YtlocgilgdnhnlaaGreatDoor.St Go.Proofs.YtlocgilgdnhnlaaGreatDoor.DgC Go.Proofs.YtlocgilgdnhnlaaGreatDoor.TlS Go.Proofs.YtlocgilgdnhnlaaGreatDoor.TbM Go.Proofs.YtlocgilgdnhnlaaGreatDoor.TbO Go.Proofs.YtlocgilgdnhnlaaGreatDoor.TbP Go.Proofs.YtlocgilgdnhnlaaGreatDoor.TbQ Go.Proofs.YtlocgilgdnhnlaaGreatDoor.GfP Go.Proofs.YtlocgilgdnhnlaaGreatDoor.PoP Go.Proofs.YtlocgilgdnhnlaaGreatDoor.RsP Go.Proofs.YtlocgilgdnhnlaaGreatDoor.PoA Go.Proofs.YtlocgilgdnhnlaaGreatDoor.MdP Go.Proofs.YtlocgilgdnhnlaaGreatDoor.TbV Go.Proofs.YtlocgilgdnhnlaaGreatDoor.TbW Go.Proofs.YtlocgilgdnhnlaaGreatDoor.FrA Go.Proofs.YtlocgilgdnhnlaaGreatDoor.FrB Go.Proofs.YtlocgilgdnhnlaaGreatDoor.LaH Go.Proofs.YtlocgilgdnhnlaaGreatDoor.LaI Go.Proofs.YtlocgilgdnhnlaaGreatDoor.LaP

/-- what a frame holds -/
structure LayF (F : Fr) : Prop where
  at_ : ∀ x ∈ F.L, ∀ i, i < x.2.size → ∀ r c, r < F.R → c * F.R + r = x.1 + i → F.D r c = sb x.2 i
  no : ∀ r c, r < F.R → F.used ≤ c * F.R + r → F.D r c = 0
  old : F.old = false → ∀ r c, F.D r c = 0
theorem lay_empty (R C K : Nat) : LayF (emptyF R C K) := ⟨fun x hx => (by cases hx), fun _ _ _ _ => rfl, fun _ _ _ => rfl⟩
theorem lay_add {S : Fr} (h : LayF S) (ho : OkL S) (d : ByteArray) : LayF (addS S d) := by
  unfold addS
  split
  · exact h
  · refine ⟨fun x hx i hi r c hr hp => ?_, fun r c hr hp => ?_, fun e => by cases e⟩
    · show (if S.used ≤ c * S.R + r ∧ c * S.R + r < S.used + d.size then sb d (c * S.R + r - S.used) else S.D r c) = _
      have hp : c * S.R + r = x.1 + i := hp
      have hx : x ∈ S.L ++ [(S.used, d)] := hx
      rcases List.mem_append.1 hx with hx | hx
      · have h1 := chain_in ho.ch x hx
        rw [if_neg (by omega)]
        exact h.at_ x hx i hi r c hr hp
      · rw [List.mem_singleton] at hx
        subst hx
        dsimp only at hp hi ⊢
        rw [if_pos (by omega), hp, Nat.add_sub_cancel_left]
    · show (if S.used ≤ c * S.R + r ∧ c * S.R + r < S.used + d.size then sb d (c * S.R + r - S.used) else S.D r c) = _
      have hp : S.used + d.size ≤ c * S.R + r := hp
      rw [if_neg (by omega)]
      exact h.no r c hr (by omega)
theorem lay_frK {R C K : Nat} (hR : R ≤ 1024) (hR0 : 0 < R) (hC : C ≤ 191) (l : List Int) (k : Nat) : LayF (frK R C K l k) := by
  induction k with
  | zero => exact lay_empty R C K
  | succ k ih => rw [frK_succ]; exact lay_add ih (frK_ok hR hR0 hC l k) _
theorem fresh_data (F : Fr) (r c : Nat) (hc : c < 191) : (FrC.freshS F).D r c = F.D r c := by
  unfold FrC.freshS
  split
  · exact FrC.frI_data F F.R r c hc
  · rfl
/-- a row, as a word -/
def rowC (F : Fr) (r : Nat) : List UInt8 := (List.range 255).map ((FrC.freshS F).D r)
theorem rowC_at (F : Fr) (r c : Nat) (hc : c < 255) : fa (rowC F r) c = (FrC.freshS F).D r c := fa_map 255 _ c hc
set_option maxRecDepth 100000 in
theorem rowC_word {F : Fr} (h : LayF F) (r : Nat) (hrr : r < F.R) (j : Nat) (hj : j < 64) : hr (rowC F r) (ex j) = 0 := by
  cases ho : F.old with
  | false =>
    rw [hr_sum]
    refine sm_zero (fun i hi => ?_)
    have hi : i < 255 := by simpa [rowC] using hi
    have : (rowC F r).getD i 0 = 0 := by
      have h1 := rowC_at F r i hi
      unfold fa at h1
      rw [h1, show FrC.freshS F = F by unfold FrC.freshS; rw [ho]; rfl]
      exact h.old ho r i
    rw [this, zero_gm]
  | true =>
    have he : rowC F r = FrC.rowL F r ++ enc (FrC.rowL F r) := by
      refine List.ext_getElem (by rw [List.length_append, enc_len]; simp [rowC, FrC.rowL]) (fun n h1 h2 => ?_)
      have hn : n < 255 := by simpa [rowC] using h1
      have hf : FrC.freshS F = { FrC.frI F F.R with old := false } := by unfold FrC.freshS; rw [ho, if_pos rfl]
      have hl : (FrC.rowL F r).length = 191 := by simp [FrC.rowL]
      rw [show (rowC F r)[n] = (FrC.freshS F).D r n by simp [rowC], hf]
      show (if r < F.R ∧ 191 ≤ n then (enc (FrC.rowL F r)).getD (n - 191) 0 else F.D r n) = _
      by_cases hn2 : n < 191
      · rw [if_neg (by omega), List.getElem_append_left (by omega)]
        simp [FrC.rowL]
      · rw [if_pos ⟨hrr, by omega⟩, List.getElem_append_right (by omega), List.getD_eq_getElem?_getD, List.getElem?_eq_getElem (by rw [enc_len]; omega), Option.getD_some]
        simp only [hl]
    rw [he]
    exact word_ok _ j hj
/-- the frame's byte at a place -/
def Dp (F : Fr) (q : Nat) : UInt8 := (FrC.freshS F).D (q % 256) (q / 256)
theorem Dp_at (F : Fr) (r c : Nat) (hr : r < 256) : Dp F (c * 256 + r) = (FrC.freshS F).D r c := by
  obtain ⟨h1, h2⟩ := place_div (c := c) hr
  unfold Dp
  rw [h1, h2]
theorem Dp_gram {F : Fr} (h : LayF F) (hR : F.R = 256) (ho : OkL F) (x : Nat × ByteArray) (hx : x ∈ F.L) (i : Nat) (hi : i < x.2.size) : Dp F (x.1 + i) = sb x.2 i := by
  have h1 := chain_in ho.ch x hx
  have h2 := ho.ok.u
  have h3 : F.R * F.C ≤ 256 * 191 := by rw [hR]; exact Nat.mul_le_mul_left _ ho.ok.C
  unfold Dp
  rw [fresh_data _ _ _ (by omega)]
  exact h.at_ x hx i hi _ _ (by omega) (by rw [hR]; omega)
theorem Dp_none {F : Fr} (h : LayF F) (hR : F.R = 256) (q : Nat) (h1 : F.used ≤ q) (h2 : q < 191 * 256) : Dp F q = 0 := by
  unfold Dp
  rw [fresh_data _ _ _ (by omega)]
  exact h.no _ _ (by omega) (by rw [hR]; omega)
/-- what is known -/
structure Kn (F : Fr) (T : Tb) (A B : Nat → Prop) : Prop where
  R : T.R = 256
  is : ∀ q, T.is q = true ↔ A q
  b : ∀ q, A q → T.b q = Dp F q
  z : ∀ q, ¬ A q → T.b q = 0
  st : ∀ q, q ∈ T.st ↔ B q
section
variable {F : Fr} {T U : Tb} {A B A' B' : Nat → Prop}
theorem Kn.congr (h : Kn F T A B) (hA : ∀ q, A q ↔ A' q) (hB : ∀ q, B q ↔ B' q) : Kn F T A' B' :=
  ⟨h.R, fun q => (h.is q).trans (hA q), fun q hq => h.b q ((hA q).2 hq), fun q hq => h.z q (fun e => hq ((hA q).1 e)), fun q => (h.st q).trans (hB q)⟩
theorem kn_empty (F : Fr) : Kn F (emptyT 256) (fun _ => False) (fun _ => False) :=
  ⟨rfl, fun q => ⟨fun h => (by cases h), fun h => h.elim⟩, fun q h => h.elim, fun _ _ => rfl, fun q => ⟨fun h => (by cases h), fun h => h.elim⟩⟩
theorem laid_iff (S : Tb) (p : Nat) (s : ByteArray) (k q : Nat) : (laid S p s k).is q = true ↔ S.is q = true ∨ (p ≤ q ∧ q < p + k) := by
  show (if p ≤ q ∧ q < p + k then true else S.is q) = true ↔ _
  by_cases h : p ≤ q ∧ q < p + k
  · rw [if_pos h]; exact ⟨fun _ => Or.inr h, fun _ => rfl⟩
  · rw [if_neg h]; exact ⟨Or.inl, fun e => e.elim id (fun e => absurd e h)⟩
theorem kn_put (h : Kn F T A B) (hl : LayF F) (hR : F.R = 256) (ho : OkL F) (x : Nat × ByteArray) (hx : x ∈ F.L) : Kn F (putS T (x.1 : Int) x.2) (fun q => A q ∨ (x.1 ≤ q ∧ q < x.1 + x.2.size)) (fun q => B q ∨ q = x.1) := by
  have h1 := chain_in ho.ch x hx
  have h2 := ho.ok.u
  have h3 : F.R * F.C ≤ 256 * 191 := by rw [hR]; exact Nat.mul_le_mul_left _ ho.ok.C
  have h20 := dg_size h1.2.2
  have hpe : putE T.R (x.1 : Int) x.2 = 0 := by
    unfold putE
    rw [h.R, if_neg (by omega)]
  have hS : putS T (x.1 : Int) x.2 = { laid T x.1 x.2 x.2.size with st := if x.1 ∈ T.st then T.st else ins T.st (below T.st x.1) x.1 } := by
    unfold putS
    rw [if_neg (by rw [hpe]; rintro (h | h); exact h rfl; omega)]
    rfl
  rw [hS]
  refine ⟨h.R, fun q => ?_, fun q hq => ?_, fun q hq => ?_, fun q => ?_⟩
  · rw [show ({ laid T x.1 x.2 x.2.size with st := if x.1 ∈ T.st then T.st else ins T.st (below T.st x.1) x.1 } : Tb).is q = (laid T x.1 x.2 x.2.size).is q from rfl, laid_iff, h.is]
  · show (if x.1 ≤ q ∧ q < x.1 + x.2.size then sb x.2 (q - x.1) else T.b q) = _
    by_cases e : x.1 ≤ q ∧ q < x.1 + x.2.size
    · rw [if_pos e, ← Dp_gram hl hR ho x hx (q - x.1) (by omega), show x.1 + (q - x.1) = q by omega]
    · rw [if_neg e]
      exact h.b q (hq.elim id (fun e2 => absurd e2 e))
  · show (if x.1 ≤ q ∧ q < x.1 + x.2.size then sb x.2 (q - x.1) else T.b q) = _
    rw [if_neg (fun e => hq (Or.inr e))]
    exact h.z q (fun e => hq (Or.inl e))
  · show q ∈ (if x.1 ∈ T.st then T.st else ins T.st (below T.st x.1) x.1) ↔ _
    rw [← h.st q]
    by_cases e : x.1 ∈ T.st
    · rw [if_pos e]
      exact ⟨Or.inl, fun h => h.elim id (fun e2 => e2 ▸ e)⟩
    · rw [if_neg e, ins_mem]
      exact Or.comm
theorem sb_str (l : List UInt8) (i : Nat) (h : i < l.length) : sb (str l) i = l[i] := by
  have h1 := sb_bl (str l) i (by rw [str_size]; exact h)
  rw [bl_str, List.getElem?_eq_getElem h] at h1
  exact (Option.some.inj h1).symm
theorem kn_par (h : Kn F T A B) (hR : F.R = 256) (k : Nat) (hk : k < 64) : Kn F (TbR.parS T (k : Int) (str (FrC.colS (FrC.freshS F) (191 + k)))) (fun q => A q ∨ ((191 + k) * 256 ≤ q ∧ q < (191 + k) * 256 + 256)) B := by
  have hl : (FrC.colS (FrC.freshS F) (191 + k)).length = 256 := by unfold FrC.colS; rw [List.length_map, List.length_range, FrC.fresh_R, hR]
  have hsz : (str (FrC.colS (FrC.freshS F) (191 + k))).size = 256 := by rw [str_size, hl]
  have hS : TbR.parS T (k : Int) (str (FrC.colS (FrC.freshS F) (191 + k))) = laid T ((191 + k) * 256) (str (FrC.colS (FrC.freshS F) (191 + k))) 256 := by
    unfold TbR.parS TbR.parE
    rw [if_neg (by rw [if_neg (by omega), if_neg (by rw [hsz, h.R]; simp)]; simp), hsz, h.R, Int.toNat_natCast]
  rw [hS]
  refine ⟨h.R, fun q => ?_, fun q hq => ?_, fun q hq => ?_, h.st⟩
  · rw [laid_iff, h.is]
  · show (if (191 + k) * 256 ≤ q ∧ q < (191 + k) * 256 + 256 then sb (str (FrC.colS (FrC.freshS F) (191 + k))) (q - (191 + k) * 256) else T.b q) = _
    by_cases e : (191 + k) * 256 ≤ q ∧ q < (191 + k) * 256 + 256
    · rw [if_pos e, sb_str _ _ (by rw [hl]; omega)]
      obtain ⟨r, hr⟩ : ∃ r, q - (191 + k) * 256 = r := ⟨_, rfl⟩
      have hq2 : q = (191 + k) * 256 + r := by omega
      simp only [hr]
      rw [show Dp F q = (FrC.freshS F).D r (191 + k) by rw [hq2, Dp_at _ _ _ (by omega)]]
      simp [FrC.colS]
    · rw [if_neg e]
      exact h.b q (hq.elim id (fun e2 => absurd e2 e))
  · show (if (191 + k) * 256 ≤ q ∧ q < (191 + k) * 256 + 256 then sb (str (FrC.colS (FrC.freshS F) (191 + k))) (q - (191 + k) * 256) else T.b q) = _
    rw [if_neg (fun e => hq (Or.inr e))]
    exact h.z q (fun e => hq (Or.inl e))
theorem pad_low {F : Fr} (ho : OkL F) (hR : F.R = 256) : padN F ≤ 191 ∧ F.used ≤ (191 - padN F) * 256 := by
  have h2 := ho.ok.u
  have h3 : F.R * F.C ≤ 256 * 191 := by rw [hR]; exact Nat.mul_le_mul_left _ ho.ok.C
  by_cases h0 : F.used = 0
  · unfold padN
    rw [if_pos h0]
    omega
  · have h1 : padN F = 190 - (F.used - 1) / 256 := by unfold padN; rw [if_neg h0, hR]
    rw [h1]
    clear h1
    obtain ⟨z, hz⟩ : ∃ z, F.used - 1 = z := ⟨_, rfl⟩
    rw [hz]
    omega
theorem kn_pad (h : Kn F T A B) (hl : LayF F) (hR : F.R = 256) (ho : OkL F) : Kn F (TbR.padS T (padN F : Nat)) (fun q => A q ∨ ((191 - padN F) * 256 ≤ q ∧ q < 191 * 256)) B := by
  obtain ⟨p1, p2⟩ := pad_low ho hR
  have hS : TbR.padS T (padN F : Nat) = { T with is := fun p => if (191 - padN F) * 256 ≤ p ∧ p < 191 * 256 then true else T.is p } := by
    unfold TbR.padS TbR.padE
    rw [if_neg (by rw [if_neg (by omega)]; simp), Int.toNat_natCast, h.R]
  rw [hS]
  refine ⟨h.R, fun q => ?_, fun q hq => ?_, fun q hq => h.z q (fun e => hq (Or.inl e)), h.st⟩
  · show (if (191 - padN F) * 256 ≤ q ∧ q < 191 * 256 then true else T.is q) = true ↔ _
    rw [← h.is q]
    by_cases e : (191 - padN F) * 256 ≤ q ∧ q < 191 * 256
    · rw [if_pos e]; exact ⟨fun _ => Or.inr e, fun _ => rfl⟩
    · rw [if_neg e]; exact ⟨Or.inl, fun h => h.elim id (fun e2 => absurd e2 e)⟩
  · show T.b q = _
    by_cases e : A q
    · exact h.b q e
    · rcases hq with hq | hq
      · exact absurd hq e
      · rw [h.z q e, Dp_none hl hR q (by omega) hq.2]
theorem sorted_eq : ∀ {l m : List Nat}, l.Pairwise (· < ·) → m.Pairwise (· < ·) → (∀ x, x ∈ l ↔ x ∈ m) → l = m
  | [], [], _, _, _ => rfl
  | [], y :: t, _, _, h => by have := (h y).2 (by simp); cases this
  | x :: s, [], _, _, h => by have := (h x).1 (by simp); cases this
  | x :: s, y :: t, hl, hm, h => by
    obtain ⟨h1, h2⟩ := List.pairwise_cons.1 hl
    obtain ⟨h3, h4⟩ := List.pairwise_cons.1 hm
    have hxy : x = y := by
      rcases List.mem_cons.1 ((h x).1 (by simp)) with e | e
      · exact e
      · rcases List.mem_cons.1 ((h y).2 (by simp)) with e2 | e2
        · exact e2.symm
        · have := h3 x e
          have := h1 y e2
          omega
    subst hxy
    congr 1
    refine sorted_eq h2 h4 (fun z => ?_)
    constructor
    · intro hz
      have := h1 z hz
      rcases List.mem_cons.1 ((h z).1 (by simp [hz])) with e | e
      · omega
      · exact e
    · intro hz
      have := h3 z hz
      rcases List.mem_cons.1 ((h z).2 (by simp [hz])) with e | e
      · omega
      · exact e
theorem kn_eq (h : Kn F T A B) (k : Kn F U A B) (hT : Ok T) (hU : Ok U) : T = U := by
  have e1 : T.is = U.is := funext fun q => by
    have h1 := h.is q
    have h2 := k.is q
    cases hq : T.is q <;> cases hu : U.is q
    · rfl
    · rw [h1.2 (h2.1 hu)] at hq; cases hq
    · rw [h2.2 (h1.1 hq)] at hu; cases hu
    · rfl
  have e2 : T.b = U.b := funext fun q => by
    by_cases e : A q
    · rw [h.b q e, k.b q e]
    · rw [h.z q e, k.z q e]
  have e3 : T.st = U.st := sorted_eq hT.up hU.up (fun x => (h.st x).trans (k.st x).symm)
  cases T
  cases U
  have hr := h.R.trans k.R.symm
  simp only at e1 e2 e3 hr
  subst e1 e2 e3 hr
  rfl
theorem Kn.row (h : Kn F T A B) (hl : LayF F) (hR : F.R = 256) (r : Nat) (hr : r < T.R) : RowOf T r (rowC F r) := by
  rw [h.R] at hr
  refine ⟨by simp [rowC], fun j hj => rowC_word hl r (by rw [hR]; exact hr) j hj, fun c hc hi => ?_⟩
  rw [h.R] at hi ⊢
  rw [h.b _ ((h.is _).1 hi), Dp_at F r c hr, rowC_at F r c hc]
/-- datagrams are put, in some order -/
def tbG (L : List (Nat × ByteArray)) (g : List Int) (f : Nat → Nat) (T : Tb) (k : Nat) : Tb := (List.range k).foldl (fun S (i : Nat) => if ((f i : Nat) : Int) ∈ g then S else putS S ((L.getD (f i) (0, nob)).1 : Int) (L.getD (f i) (0, nob)).2) T
theorem tbG_succ (L : List (Nat × ByteArray)) (g : List Int) (f : Nat → Nat) (T : Tb) (k : Nat) : tbG L g f T (k + 1) = if ((f k : Nat) : Int) ∈ g then tbG L g f T k else putS (tbG L g f T k) ((L.getD (f k) (0, nob)).1 : Int) (L.getD (f k) (0, nob)).2 := by unfold tbG; rw [List.range_succ, List.foldl_append]; rfl
theorem tbG_id (L : List (Nat × ByteArray)) (g : List Int) (T : Tb) (k : Nat) : tbG L g id T k = tbK L g T k := rfl
def inG (L : List (Nat × ByteArray)) (g : List Int) (f : Nat → Nat) (k q : Nat) : Prop := ∃ j x, j < k ∧ ((f j : Nat) : Int) ∉ g ∧ L[f j]? = some x ∧ x.1 ≤ q ∧ q < x.1 + x.2.size
def stG (L : List (Nat × ByteArray)) (g : List Int) (f : Nat → Nat) (k q : Nat) : Prop := ∃ j x, j < k ∧ ((f j : Nat) : Int) ∉ g ∧ L[f j]? = some x ∧ q = x.1
theorem step_ex {k : Nat} {L : List (Nat × ByteArray)} {g : List Int} {f : Nat → Nat} {Q : Nat × ByteArray → Prop} {y : Nat × ByteArray} (hy : L[f k]? = some y) :
    (∃ j x, j < k + 1 ∧ ((f j : Nat) : Int) ∉ g ∧ L[f j]? = some x ∧ Q x) ↔ (∃ j x, j < k ∧ ((f j : Nat) : Int) ∉ g ∧ L[f j]? = some x ∧ Q x) ∨ (((f k : Nat) : Int) ∉ g ∧ Q y) := by
  constructor
  · rintro ⟨j, x, h1, h2, h3, h4⟩
    by_cases e : j = k
    · subst e
      rw [hy] at h3
      injection h3 with h3
      subst h3
      exact Or.inr ⟨h2, h4⟩
    · exact Or.inl ⟨j, x, by omega, h2, h3, h4⟩
  · rintro (⟨j, x, h1, h2, h3, h4⟩ | ⟨h1, h2⟩)
    · exact ⟨j, x, by omega, h2, h3, h4⟩
    · exact ⟨k, y, by omega, h1, hy, h2⟩
theorem kn_grams (h : Kn F T A B) (hl : LayF F) (hR : F.R = 256) (ho : OkL F) (g : List Int) (f : Nat → Nat) : ∀ k, (∀ j, j < k → f j < F.L.length) → Kn F (tbG F.L g f T k) (fun q => A q ∨ inG F.L g f k q) (fun q => B q ∨ stG F.L g f k q)
  | 0, _ => h.congr (fun q => ⟨Or.inl, fun e => e.elim id (fun ⟨j, x, h1, _⟩ => by omega)⟩) (fun q => ⟨Or.inl, fun e => e.elim id (fun ⟨j, x, h1, _⟩ => by omega)⟩)
  | k + 1, hf => by
    have ih := kn_grams h hl hR ho g f k (fun j hj => hf j (by omega))
    obtain ⟨y, hy⟩ : ∃ y, F.L[f k]? = some y := ⟨_, List.getElem?_eq_getElem (hf k (by omega))⟩
    rw [tbG_succ, show F.L.getD (f k) (0, nob) = y by rw [List.getD_eq_getElem?_getD, hy]; rfl]
    have sA := fun q => step_ex (g := g) (Q := fun x => x.1 ≤ q ∧ q < x.1 + x.2.size) hy
    have sB := fun q => step_ex (g := g) (Q := fun x => q = x.1) hy
    split
    · rename_i hg
      refine ih.congr (fun q => ?_) (fun q => ?_)
      · rw [show inG F.L g f (k + 1) q ↔ _ from sA q]
        exact ⟨fun e => e.elim Or.inl (fun e => Or.inr (Or.inl e)), fun e => e.elim Or.inl (fun e => e.elim Or.inr (fun e => absurd hg e.1))⟩
      · rw [show stG F.L g f (k + 1) q ↔ _ from sB q]
        exact ⟨fun e => e.elim Or.inl (fun e => Or.inr (Or.inl e)), fun e => e.elim Or.inl (fun e => e.elim Or.inr (fun e => absurd hg e.1))⟩
    · rename_i hg
      refine (kn_put ih hl hR ho y (List.mem_of_getElem? hy)).congr (fun q => ?_) (fun q => ?_)
      · rw [show inG F.L g f (k + 1) q ↔ _ from sA q]
        exact ⟨fun e => e.elim (fun e => e.elim Or.inl (fun e => Or.inr (Or.inl e))) (fun e => Or.inr (Or.inr ⟨hg, e⟩)), fun e => e.elim (fun e => Or.inl (Or.inl e)) (fun e => e.elim (fun e => Or.inl (Or.inr e)) (fun e => Or.inr e.2))⟩
      · rw [show stG F.L g f (k + 1) q ↔ _ from sB q]
        exact ⟨fun e => e.elim (fun e => e.elim Or.inl (fun e => Or.inr (Or.inl e))) (fun e => Or.inr (Or.inr ⟨hg, e⟩)), fun e => e.elim (fun e => Or.inl (Or.inl e)) (fun e => e.elim (fun e => Or.inl (Or.inr e)) (fun e => Or.inr e.2))⟩
/-- columns of parity are put, in some order -/
def tbP (M : List ByteArray) (p : List Int) (f : Nat → Nat) (T : Tb) (k : Nat) : Tb := (List.range k).foldl (fun S (i : Nat) => if ((f i : Nat) : Int) ∈ p then S else TbR.parS S ((f i : Nat) : Int) (M.getD (f i) nob)) T
theorem tbP_succ (M : List ByteArray) (p : List Int) (f : Nat → Nat) (T : Tb) (k : Nat) : tbP M p f T (k + 1) = if ((f k : Nat) : Int) ∈ p then tbP M p f T k else TbR.parS (tbP M p f T k) ((f k : Nat) : Int) (M.getD (f k) nob) := by unfold tbP; rw [List.range_succ, List.foldl_append]; rfl
theorem tbP_id (M : List ByteArray) (p : List Int) (T : Tb) (k : Nat) : tbP M p id T k = tbM M p T k := rfl
def inP (p : List Int) (f : Nat → Nat) (k q : Nat) : Prop := ∃ j, j < k ∧ ((f j : Nat) : Int) ∉ p ∧ (191 + f j) * 256 ≤ q ∧ q < (191 + f j) * 256 + 256
theorem kn_pars (h : Kn F T A B) (hR : F.R = 256) (m : Nat) (hm : m ≤ 64) (p : List Int) (f : Nat → Nat) : ∀ k, (∀ j, j < k → f j < m) → Kn F (tbP (FrC.parL F m) p f T k) (fun q => A q ∨ inP p f k q) B
  | 0, _ => h.congr (fun q => ⟨Or.inl, fun e => e.elim id (fun ⟨j, h1, _⟩ => by omega)⟩) (fun q => Iff.rfl)
  | k + 1, hf => by
    have ih := kn_pars h hR m hm p f k (fun j hj => hf j (by omega))
    have hfk := hf k (by omega)
    rw [tbP_succ, show (FrC.parL F m).getD (f k) nob = str (FrC.colS (FrC.freshS F) (191 + f k)) by
      rw [List.getD_eq_getElem?_getD, FrC.parL, List.getElem?_map, List.getElem?_range hfk]; rfl]
    have hst : ∀ q, inP p f (k + 1) q ↔ inP p f k q ∨ (((f k : Nat) : Int) ∉ p ∧ (191 + f k) * 256 ≤ q ∧ q < (191 + f k) * 256 + 256) := fun q => by
      constructor
      · rintro ⟨j, h1, h2, h3⟩
        by_cases e : j = k
        · subst e; exact Or.inr ⟨h2, h3⟩
        · exact Or.inl ⟨j, by omega, h2, h3⟩
      · rintro (⟨j, h1, h2, h3⟩ | ⟨h2, h3⟩)
        · exact ⟨j, by omega, h2, h3⟩
        · exact ⟨k, by omega, h2, h3⟩
    split
    · rename_i hg
      refine ih.congr (fun q => ?_) (fun q => Iff.rfl)
      rw [hst q]
      exact ⟨fun e => e.elim Or.inl (fun e => Or.inr (Or.inl e)), fun e => e.elim Or.inl (fun e => e.elim Or.inr (fun e => absurd hg e.1))⟩
    · rename_i hg
      refine (kn_par ih hR (f k) (by omega)).congr (fun q => ?_) (fun q => Iff.rfl)
      rw [hst q]
      exact ⟨fun e => e.elim (fun e => e.elim Or.inl (fun e => Or.inr (Or.inl e))) (fun e => Or.inr (Or.inr ⟨hg, e⟩)), fun e => e.elim (fun e => Or.inl (Or.inl e)) (fun e => e.elim (fun e => Or.inl (Or.inr e)) (fun e => Or.inr e.2))⟩
end
/-- all that came -/
def AF (F : Fr) (m : Nat) (g p : List Int) (pad : Bool) (q : Nat) : Prop := inG F.L g id F.L.length q ∨ inP p id m q ∨ (pad = true ∧ (191 - padN F) * 256 ≤ q ∧ q < 191 * 256)
def BF (F : Fr) (g : List Int) (q : Nat) : Prop := stG F.L g id F.L.length q
theorem kn_sent (C K : Nat) (l g p : List Int) (pad : Bool) (hC : C ≤ 191) : Kn (frS C K l) (tbS C K l g p pad) (AF (frS C K l) (64 - K) g p pad) (BF (frS C K l) g) := by
  have hR := (frK_R 256 C K l l.length).1
  have ho := frK_ok (R := 256) (K := K) (by decide) (by decide) hC l l.length
  have hl := lay_frK (R := 256) (K := K) (by decide) (by decide) hC l l.length
  show Kn (frS C K l) (tbS C K l g p pad) _ _
  obtain ⟨F, hF⟩ : ∃ F, frS C K l = F := ⟨_, rfl⟩
  have hF2 : frK 256 C K l l.length = F := hF
  rw [hF2] at hR ho hl
  have h1 := kn_grams (kn_empty F) hl hR ho g id F.L.length (fun j hj => hj)
  have h2 := kn_pars h1 hR (64 - K) (by omega) p id (64 - K) (fun j hj => hj)
  rw [tbG_id, tbP_id] at h2
  unfold tbS
  rw [hF]
  dsimp only
  cases pad with
  | false =>
    rw [if_neg (by decide)]
    refine h2.congr (fun q => ?_) (fun q => ?_)
    · unfold AF
      exact ⟨fun e => e.elim (fun e => e.elim False.elim Or.inl) (fun e => Or.inr (Or.inl e)), fun e => e.elim (fun e => Or.inl (Or.inr e)) (fun e => e.elim Or.inr (fun e => by cases e.1))⟩
    · exact ⟨fun e => e.elim False.elim id, Or.inr⟩
  | true =>
    rw [if_pos rfl]
    refine (kn_pad h2 hl hR ho).congr (fun q => ?_) (fun q => ?_)
    · unfold AF
      exact ⟨fun e => e.elim (fun e => e.elim (fun e => e.elim False.elim Or.inl) (fun e => Or.inr (Or.inl e))) (fun e => Or.inr (Or.inr ⟨rfl, e⟩)), fun e => e.elim (fun e => Or.inl (Or.inl (Or.inr e))) (fun e => e.elim (fun e => Or.inl (Or.inr e)) (fun e => Or.inr e.2))⟩
    · exact ⟨fun e => e.elim False.elim id, Or.inr⟩
end Go.Proofs.YtlocgilgdnhnlaaGreatDoor.LaQ
