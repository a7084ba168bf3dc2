/- What a table tells of which a frame's datagrams were put, some being lost: those that were put, and no other ones (plain). -/
import Derived.Test.YtlocgilgdnhnlaaGreatDoorLaI
import Derived.Test.YtlocgilgdnhnlaaGreatDoorLaE
namespace Go.Proofs.YtlocgilgdnhnlaaGreatDoor.LaP
open Go Go.Proofs.YtlocgilgdnhnlaaGreatDoor.St Go.Proofs.YtlocgilgdnhnlaaGreatDoor.BiH Go.Proofs.YtlocgilgdnhnlaaGreatDoor.DgB Go.Proofs.YtlocgilgdnhnlaaGreatDoor.DgC Go.Proofs.YtlocgilgdnhnlaaGreatDoor.TlS Go.Proofs.YtlocgilgdnhnlaaGreatDoor.TbM Go.Proofs.YtlocgilgdnhnlaaGreatDoor.TbO Go.Proofs.YtlocgilgdnhnlaaGreatDoor.TbP Go.Proofs.YtlocgilgdnhnlaaGreatDoor.TbQ Go.Proofs.YtlocgilgdnhnlaaGreatDoor.TbT Go.Proofs.YtlocgilgdnhnlaaGreatDoor.TbU Go.Proofs.YtlocgilgdnhnlaaGreatDoor.FrA Go.Proofs.YtlocgilgdnhnlaaGreatDoor.FrB Go.Proofs.YtlocgilgdnhnlaaGreatDoor.LaE Go.Proofs.YtlocgilgdnhnlaaGreatDoor.LaH

/-- a datagram at the beginning of bytes -/
theorem fs_prefix {s X : ByteArray} (h : dgE X = 0) (hle : X.size ≤ s.size) (hx : s.extract 0 X.size = X) : fsN s = X.size := by
  have h20 := dg_size h
  have hp : pkE X = 0 := by
    unfold dgE at h
    split at h
    · rename_i h1; exact absurd h h1
    · rename_i h1; simpa using h1
  have hl : (pkH X).length = X.size := by
    unfold dgE at h
    rw [if_neg (by simpa using hp)] at h
    split at h
    · cases h
    · split at h
      · cases h
      · omega
  have ha : ∀ i, i < X.size → at0 s i = at0 X i := fun i hi => by
    rw [← hx]
    unfold at0
    rw [ByteArray.data_extract, Array.getElem?_extract, if_pos (by have : s.size = s.data.size := rfl; omega), Nat.zero_add]
  have hk : pkE s = 0 ∧ (pkH s).length = (pkH X).length := by
    have hp2 := hp
    have hX0 : X.size ≠ 0 := by omega
    have hs0 : s.size ≠ 0 := by omega
    unfold pkE at hp
    rw [if_neg hX0] at hp
    by_cases h4 : at0 X 0 / 16 = 4
    · rw [if_pos h4] at hp
      have e4 : at0 s 0 / 16 = 4 := by rw [ha 0 (by omega)]; exact h4
      have hd : hd4 s = hd4 X := by unfold hd4; rw [ha 0 (by omega), ha 2 (by omega), ha 3 (by omega), ha 9 (by omega)]
      have hs : pkE s = 0 := by
        unfold pkE
        rw [if_neg hs0, if_pos e4, if_neg (by omega), hd]
        split at hp
        · cases hp
        · exact hp
      refine ⟨hs, ?_⟩
      unfold pkH
      rw [if_pos hs, if_pos hp2, if_pos e4, if_pos h4, hd]
    · rw [if_neg h4] at hp
      by_cases h6 : at0 X 0 / 16 = 6
      · rw [if_pos h6] at hp
        have e6 : at0 s 0 / 16 = 6 := by rw [ha 0 (by omega)]; exact h6
        split at hp
        · cases hp
        rename_i h40
        have hd : hd6 s = hd6 X := by unfold hd6; rw [ha 4 (by omega), ha 5 (by omega), ha 6 (by omega)]
        have hs : pkE s = 0 := by
          unfold pkE
          rw [if_neg hs0, if_neg (by omega), if_pos e6, if_neg (by omega), hd]
          exact hp
        refine ⟨hs, ?_⟩
        unfold pkH
        rw [if_pos hs, if_pos hp2, if_neg (by omega), if_neg h4, hd]
      · rw [if_neg h6] at hp; cases hp
  unfold fsN
  rw [hk.2, hl, Int.toNat_natCast, hx, if_pos ⟨hk.1, by omega, h⟩]
theorem fs_none {s : ByteArray} (h : s.size = 0 ∨ at0 s 0 = 0) : fsN s = 0 := by
  have hp : pkE s ≠ 0 := by
    unfold pkE
    rcases h with h | h
    · rw [if_pos h]; decide
    · split
      · decide
      · rw [h, if_neg (by decide), if_neg (by decide)]; decide
  unfold fsN
  rw [if_neg (fun e => hp e.1)]
theorem kn_ge (S : Tb) : ∀ (k f p : Nat), k ≤ f → (∀ i, i < k → atI S ((p + i : Nat) : Int) = true) → k ≤ kn S p f
  | 0, _, _, _, _ => Nat.zero_le _
  | k + 1, 0, p, h, _ => by omega
  | k + 1, f + 1, p, h, h1 => by
    have h0 := h1 0 (by omega)
    rw [Nat.add_zero] at h0
    rw [kn, if_pos h0]
    have := kn_ge S k f (p + 1) (by omega) (fun i hi => by rw [show p + 1 + i = p + (i + 1) by omega]; exact h1 (i + 1) (by omega))
    omega
theorem sb_bl (X : ByteArray) (i : Nat) (h : i < X.size) : (bl X)[i]? = some (sb X i) := by
  unfold sb bl
  have hd : i < X.data.size := h
  rw [Array.getElem?_toList, Array.getElem?_eq_getElem hd]
  rfl
theorem bytes_are {S : Tb} {p : Nat} {X : ByteArray} (h : ∀ i, i < X.size → S.b (p + i) = sb X i) : bytesL S p X.size = bl X := by
  apply List.ext_getElem (by rw [bytesL_len, bl_len])
  intro i h1 h2
  rw [bytesL_len] at h1
  have h3 := sb_bl X i h1
  rw [List.getElem?_eq_getElem h2] at h3
  rw [Option.some.inj h3]
  simp only [bytesL, List.getElem_map, List.getElem_range]
  exact h i h1
/-- a datagram that is known is told -/
theorem dN_yes {S : Tb} {p : Nat} {X : ByteArray} (hd : dgE X = 0) (hR : p + X.size ≤ 191 * S.R) (hi : ∀ i, i < X.size → S.is (p + i) = true) (hb : ∀ i, i < X.size → S.b (p + i) = sb X i) : dN S p = X.size := by
  have h20 := dg_size hd
  have hk : X.size ≤ kn S p 4080 := kn_ge S X.size 4080 p h20.2 (fun i h => by rw [atI_nat', decide_eq_true (by omega), hi i h]; rfl)
  refine fs_prefix hd (by rw [kn_size]; exact hk) (bl_inj ?_)
  rw [ext_bl, List.drop_zero, Nat.sub_zero]
  unfold knS
  rw [bl_str, ← bytes_are hb]
  unfold bytesL
  rw [← List.map_take, List.take_range, Nat.min_eq_left hk]
theorem dN_no {S : Tb} {p : Nat} (h : S.is p = false ∨ S.b p = 0) : dN S p = 0 := by
  refine fs_none ?_
  by_cases hk : kn S p 4080 = 0
  · exact Or.inl (by rw [kn_size]; exact hk)
  · refine Or.inr ?_
    have h1 : S.is p = true := by
      rw [kn] at hk
      by_cases ha : atI S p = true
      · rw [atI_nat'] at ha
        simp only [Bool.and_eq_true] at ha
        exact ha.2
      · rw [if_neg ha] at hk; exact absurd rfl hk
    have h2 : S.b p = 0 := by
      rcases h with h | h
      · rw [h1] at h; cases h
      · exact h
    unfold knS at0
    have h3 : (bytesL S p (kn S p 4080))[0]? = some (S.b p) := by
      unfold bytesL
      rw [List.getElem?_map, List.getElem?_range (by omega)]
      rfl
    have h4 : (str (bytesL S p (kn S p 4080))).data[0]? = some (S.b p) := by
      rw [← h3]; simp [str]
    rw [h4, h2]
    rfl
theorem below_count {L : List Nat} {p q : Nat} (hs : L.Pairwise (· < ·)) (hq : q ∈ L) (hp : p < q) (hmin : ∀ z ∈ L, p < z → q ≤ z) : (L.drop (below L (p + 1))).head? = some q := by
  induction L with
  | nil => cases hq
  | cons x t ih =>
    have ht := List.pairwise_cons.1 hs
    by_cases hx : x < p + 1
    · have : below (x :: t) (p + 1) = below t (p + 1) + 1 := by unfold below; rw [List.countP_cons]; simp [hx]
      rw [this, List.drop_succ_cons]
      refine ih ht.2 ?_ (fun z hz h => hmin z (by simp [hz]) h)
      rcases List.mem_cons.1 hq with e | e
      · omega
      · exact e
    · have h0 : t.countP (fun z => decide (z < p + 1)) = 0 := by
        rw [List.countP_eq_zero]
        intro y hy
        have := ht.1 y hy
        simp; omega
      have : below (x :: t) (p + 1) = 0 := by unfold below; rw [List.countP_cons, h0]; simp; omega
      rw [this, List.drop_zero, List.head?_cons]
      have h1 := hmin x (by simp) (by omega)
      rcases List.mem_cons.1 hq with e | e
      · rw [e]
      · have := ht.1 q e; omega
theorem nxt_some {S : Tb} {p q : Nat} (hs : S.st.Pairwise (· < ·)) (hq : q ∈ S.st) (hp : p < q) (hmin : ∀ z ∈ S.st, p < z → q ≤ z) : nxt S p = some q := below_count hs hq hp hmin
theorem nxt_none {S : Tb} {p : Nat} (h : ∀ z ∈ S.st, z ≤ p) : nxt S p = none := by
  unfold nxt
  have h1 : below S.st (p + 1) = S.st.length := by
    unfold below
    rw [List.countP_eq_length]
    intro z hz
    have := h z hz
    simp; omega
  rw [h1, List.drop_length]
  rfl
/-- those that are not lost, from the k-th one on -/
def told (g : List Int) : Nat → List (Nat × ByteArray) → List (Nat × ByteArray)
  | _, [] => []
  | k, x :: t => if (k : Int) ∈ g then told g (k + 1) t else x :: told g (k + 1) t
theorem told_mem {g : List Int} : ∀ {L : List (Nat × ByteArray)} {k : Nat} {x : Nat × ByteArray}, x ∈ told g k L → x ∈ L
  | [], k, x, h => h
  | y :: t, k, x, h => by
    rw [told] at h
    split at h
    · exact List.mem_cons_of_mem _ (told_mem h)
    · rcases List.mem_cons.1 h with rfl | h
      · exact List.mem_cons_self ..
      · exact List.mem_cons_of_mem _ (told_mem h)
/-- what a table must be -/
structure Has (T : Tb) (g : List Int) (k : Nat) (L : List (Nat × ByteArray)) (u : Nat) : Prop where
  ok : Ok T
  ul : u ≤ 191 * T.R
  is : ∀ x ∈ told g k L, ∀ i, i < x.2.size → T.is (x.1 + i) = true ∧ T.b (x.1 + i) = sb x.2 i
  no : ∀ j x, L[j]? = some x → ((k + j : Nat) : Int) ∈ g → T.is x.1 = false
  en : T.is u = false ∨ T.b u = 0
  st : ∀ j x, L[j]? = some x → ((k + j : Nat) : Int) ∉ g → x.1 ∈ T.st
theorem Has.tail {T : Tb} {g : List Int} {k u : Nat} {y : Nat × ByteArray} {t : List (Nat × ByteArray)} (h : Has T g k (y :: t) u) : Has T g (k + 1) t u :=
  ⟨h.ok, h.ul, fun x hx => h.is x (by rw [told]; split; exact hx; exact List.mem_cons_of_mem _ hx), fun j x hj hg => h.no (j + 1) x hj (by rw [show k + (j + 1) = k + 1 + j by omega]; exact hg), h.en,
   fun j x hj hg => h.st (j + 1) x hj (by rw [show k + (j + 1) = k + 1 + j by omega]; exact hg)⟩
/-- the starts behind a place are those of the datagrams behind it -/
def Only (T : Tb) (g : List Int) (k : Nat) (L : List (Nat × ByteArray)) (b : Nat) : Prop := ∀ z ∈ T.st, b < z → ∃ j x, L[j]? = some x ∧ ((k + j : Nat) : Int) ∉ g ∧ z = x.1
theorem walk {T : Tb} {g : List Int} {u : Nat} : ∀ (L : List (Nat × ByteArray)) (k a : Nat), Chain a L u → Has T g k L u →
    (∀ (_ : Only T g k L a), outAt T a = (told g k L).map (fun x => (x.1, x.2.size))) ∧ (∀ b, b < a → dN T b = 0 → Only T g k L b → outAt T b = (told g k L).map (fun x => (x.1, x.2.size)))
  | [], k, a, hc, h => by
    obtain rfl : a = u := hc
    have hd := dN_no h.en
    refine ⟨fun ho => outAt_end h.ul (by rw [hd]; decide) (nxt_none fun z hz => ?_), fun b hb hdb ho => outAt_end (by have := h.ul; omega) (by rw [hdb]; decide) (nxt_none fun z hz => ?_)⟩
    · rcases Nat.lt_or_ge a z with h1 | h1
      · obtain ⟨j, x, hj, _⟩ := ho z hz h1
        simp at hj
      · exact h1
    · rcases Nat.lt_or_ge b z with h1 | h1
      · obtain ⟨j, x, hj, _⟩ := ho z hz h1
        simp at hj
      · exact h1
  | (q, d) :: t, k, a, hc, h => by
    obtain ⟨hqa, hd, hct⟩ := hc
    subst hqa
    have h20 := dg_size hd
    obtain ⟨ihM, ihN⟩ := walk t (k + 1) (q + d.size) hct h.tail
    have hcle := chain_le hct
    have hu := h.ul
    have main : Only T g k ((q, d) :: t) q → outAt T q = (told g k ((q, d) :: t)).map (fun x => (x.1, x.2.size)) := fun ho => by
      have ho2 : Only T g (k + 1) t q := fun z hz hqz => by
        obtain ⟨j, x, hj, hg, rfl⟩ := ho z hz hqz
        cases j with
        | zero => simp at hj; subst hj; exact absurd hqz (Nat.lt_irrefl _)
        | succ j => exact ⟨j, x, hj, by rw [show k + 1 + j = k + (j + 1) by omega]; exact hg, rfl⟩
      by_cases hg : (k : Int) ∈ g
      · have hn : dN T q = 0 := dN_no (Or.inl (h.no 0 (q, d) rfl (by rw [Nat.add_zero]; exact hg)))
        rw [told, if_pos hg]
        exact ihN q (by omega) hn ho2
      · have hy : dN T q = d.size := dN_yes hd (by omega) (fun i hi => (h.is (q, d) (by rw [told, if_neg hg]; exact List.mem_cons_self ..) i hi).1) (fun i hi => (h.is (q, d) (by rw [told, if_neg hg]; exact List.mem_cons_self ..) i hi).2)
        rw [outAt_yes h.ok (by omega) (by rw [hy]; omega), hy, told, if_neg hg, List.map_cons]
        congr 1
        exact ihM (fun z hz hqz => ho2 z hz (by omega))
    refine ⟨main, fun b hb hdb ho => ?_⟩
    by_cases hg : (k : Int) ∈ g
    · rw [told, if_pos hg]
      refine ihN b (by omega) hdb (fun z hz hbz => ?_)
      obtain ⟨j, x, hj, hgj, rfl⟩ := ho z hz hbz
      cases j with
      | zero => exact absurd (by rw [Nat.add_zero]; exact hg) hgj
      | succ j => exact ⟨j, x, hj, by rw [show k + 1 + j = k + (j + 1) by omega]; exact hgj, rfl⟩
    · have hq : q ∈ T.st := h.st 0 (q, d) rfl (by rw [Nat.add_zero]; exact hg)
      have hn : nxt T b = some q := nxt_some h.ok.up hq hb (fun z hz hbz => by
        obtain ⟨j, x, hj, _, rfl⟩ := ho z hz hbz
        cases j with
        | zero => simp at hj; subst hj; exact Nat.le_refl _
        | succ j =>
          have := (chain_in hct x (List.mem_of_getElem? hj)).1
          omega)
      rw [outAt_next h.ok (by omega) (by rw [hdb]; decide) hn]
      exact main (fun z hz hqz => ho z hz (by omega))
theorem chain_lt : ∀ {L : List (Nat × ByteArray)} {a u i j : Nat} {x y : Nat × ByteArray}, Chain a L u → L[i]? = some x → L[j]? = some y → i < j → x.1 + x.2.size ≤ y.1
  | [], a, u, i, j, x, y, _, hx, _, _ => by simp at hx
  | (q, d) :: t, a, u, 0, j + 1, x, y, ⟨h1, _, h3⟩, hx, hy, _ => by
    simp at hx
    subst hx h1
    exact (chain_in h3 y (List.mem_of_getElem? hy)).1
  | (q, d) :: t, a, u, i + 1, j + 1, x, y, ⟨_, _, h3⟩, hx, hy, h => chain_lt h3 hx hy (by omega)
/-- what is known behind k of the datagrams -/
structure Part (T : Tb) (g : List Int) (L : List (Nat × ByteArray)) (k : Nat) : Prop where
  is : ∀ p, T.is p = true ↔ ∃ j x, j < k ∧ (j : Int) ∉ g ∧ L[j]? = some x ∧ x.1 ≤ p ∧ p < x.1 + x.2.size
  b : ∀ j x, j < k → (j : Int) ∉ g → L[j]? = some x → ∀ i, i < x.2.size → T.b (x.1 + i) = sb x.2 i
  z : ∀ p, T.is p = false → T.b p = 0
  st : ∀ q, q ∈ T.st ↔ ∃ j x, j < k ∧ (j : Int) ∉ g ∧ L[j]? = some x ∧ q = x.1
theorem ins_mem {L : List Nat} {i x : Nat} {z : Nat} : z ∈ ins L i x ↔ z = x ∨ z ∈ L := by
  unfold ins
  rw [List.mem_append, List.mem_cons]
  constructor
  · rintro (h | h | h)
    · exact Or.inr (List.mem_of_mem_take h)
    · exact Or.inl h
    · exact Or.inr (List.mem_of_mem_drop h)
  · rintro (h | h)
    · exact Or.inr (Or.inl h)
    · rw [← List.take_append_drop i L, List.mem_append] at h
      rcases h with h | h
      · exact Or.inl h
      · exact Or.inr (Or.inr h)
theorem part_of {L : List (Nat × ByteArray)} {g : List Int} {u : Nat} (hc : Chain 0 L u) (hu : u ≤ 191 * 256) : ∀ k, k ≤ L.length → Part (tbK L g (emptyT 256) k) g L k
  | 0, _ => by
    refine ⟨fun p => ?_, fun j x hj => by omega, fun p _ => rfl, fun q => ?_⟩
    · constructor
      · intro h; cases h
      · rintro ⟨j, x, hj, _⟩; omega
    · constructor
      · intro h; cases h
      · rintro ⟨j, x, hj, _⟩; omega
  | k + 1, hk => by
    have ih := part_of (g := g) hc hu k (by omega)
    obtain ⟨y, hy⟩ : ∃ y, L[k]? = some y := ⟨_, List.getElem?_eq_getElem (by omega)⟩
    have hR : (tbK L g (emptyT 256) k).R = 256 := by
      have : ∀ k, (tbK L g (emptyT 256) k).R = 256 := fun k => by
        induction k with
        | zero => rfl
        | succ k ih => rw [tbK_succ]; split; exact ih; rw [put_R]; exact ih
      exact this k
    rw [tbK_succ, show L.getD k (0, nob) = y by rw [List.getD_eq_getElem?_getD, hy]; rfl]
    have step : ∀ {Q : Nat → Nat × ByteArray → Prop}, (∃ j x, j < k + 1 ∧ (j : Int) ∉ g ∧ L[j]? = some x ∧ Q j x) ↔ ((k : Int) ∉ g ∧ Q k y) ∨ (∃ j x, j < k ∧ (j : Int) ∉ g ∧ L[j]? = some x ∧ Q j x) := fun {Q} => by
      constructor
      · rintro ⟨j, x, h1, h2, h3, h4⟩
        by_cases e : j = k
        · subst e
          rw [hy] at h3
          injection h3 with h3
          subst h3
          exact Or.inl ⟨h2, h4⟩
        · exact Or.inr ⟨j, x, by omega, h2, h3, h4⟩
      · rintro (⟨h1, h2⟩ | ⟨j, x, h1, h2, h3, h4⟩)
        · exact ⟨k, y, by omega, h1, hy, h2⟩
        · exact ⟨j, x, by omega, h2, h3, h4⟩
    by_cases hg : (k : Int) ∈ g
    · rw [if_pos hg]
      refine ⟨fun p => ?_, fun j x hj hjg hx => ?_, ih.z, fun q => ?_⟩
      · rw [ih.is p, step (Q := fun j x => x.1 ≤ p ∧ p < x.1 + x.2.size)]
        exact ⟨Or.inr, fun h => h.elim (fun h => absurd hg h.1) id⟩
      · by_cases e : j = k
        · subst e; exact absurd hg hjg
        · exact ih.b j x (by omega) hjg hx
      · rw [ih.st q, step (Q := fun j x => q = x.1)]
        exact ⟨Or.inr, fun h => h.elim (fun h => absurd hg h.1) id⟩
    · rw [if_neg hg]
      have hin := chain_in hc y (List.mem_of_getElem? hy)
      have h20 := dg_size hin.2.2
      have hpe : putE (tbK L g (emptyT 256) k).R (y.1 : Int) y.2 = 0 := by
        unfold putE
        rw [hR, if_neg (by omega)]
      have hS : putS (tbK L g (emptyT 256) k) (y.1 : Int) y.2 = { laid (tbK L g (emptyT 256) k) y.1 y.2 y.2.size with st := if y.1 ∈ (tbK L g (emptyT 256) k).st then (tbK L g (emptyT 256) k).st else ins (tbK L g (emptyT 256) k).st (below (tbK L g (emptyT 256) k).st y.1) y.1 } := by
        unfold putS
        rw [if_neg (by rw [hpe]; rintro (h | h); exact h rfl; omega)]
        rfl
      rw [hS]
      obtain ⟨T, hT⟩ : ∃ T, tbK L g (emptyT 256) k = T := ⟨_, rfl⟩
      rw [hT] at ih ⊢
      clear hS hpe hR hT
      refine ⟨fun p => ?_, fun j x hj hjg hx i hi => ?_, fun p hp => ?_, fun q => ?_⟩
      · show (if y.1 ≤ p ∧ p < y.1 + y.2.size then true else T.is p) = true ↔ _
        rw [step (Q := fun j x => x.1 ≤ p ∧ p < x.1 + x.2.size), ← ih.is p]
        by_cases h : y.1 ≤ p ∧ p < y.1 + y.2.size
        · rw [if_pos h]; exact ⟨fun _ => Or.inl ⟨hg, h⟩, fun _ => rfl⟩
        · rw [if_neg h]; exact ⟨Or.inr, fun e => e.elim (fun e => absurd e.2 h) id⟩
      · show (if y.1 ≤ x.1 + i ∧ x.1 + i < y.1 + y.2.size then sb y.2 (x.1 + i - y.1) else T.b (x.1 + i)) = sb x.2 i
        by_cases e : j = k
        · subst e
          rw [hy] at hx
          injection hx with hx
          subst hx
          rw [if_pos (by omega), Nat.add_sub_cancel_left]
        · have h1 := chain_lt hc hx hy (by omega)
          rw [if_neg (by omega)]
          exact ih.b j x (by omega) hjg hx i hi
      · have hp : (if y.1 ≤ p ∧ p < y.1 + y.2.size then true else T.is p) = false := hp
        show (if y.1 ≤ p ∧ p < y.1 + y.2.size then sb y.2 (p - y.1) else T.b p) = 0
        by_cases h : y.1 ≤ p ∧ p < y.1 + y.2.size
        · rw [if_pos h] at hp; cases hp
        · rw [if_neg h] at hp ⊢
          exact ih.z p hp
      · show q ∈ (if y.1 ∈ T.st then T.st else ins T.st (below T.st y.1) y.1) ↔ _
        rw [step (Q := fun j x => q = x.1), ← ih.st q]
        by_cases h : y.1 ∈ T.st
        · rw [if_pos h]
          exact ⟨Or.inr, fun e => e.elim (fun e => e.2 ▸ h) id⟩
        · rw [if_neg h, ins_mem]
          exact ⟨fun e => e.elim (fun e => Or.inl ⟨hg, e⟩) Or.inr, fun e => e.elim (fun e => Or.inl e.2) Or.inr⟩
theorem told_at {g : List Int} : ∀ {L : List (Nat × ByteArray)} {k : Nat} {x : Nat × ByteArray}, x ∈ told g k L → ∃ j, L[j]? = some x ∧ ((k + j : Nat) : Int) ∉ g
  | [], k, x, h => by cases h
  | y :: t, k, x, h => by
    rw [told] at h
    split at h
    · obtain ⟨j, h1, h2⟩ := told_at h
      exact ⟨j + 1, h1, by rw [show k + (j + 1) = k + 1 + j by omega]; exact h2⟩
    · rename_i hg
      rcases List.mem_cons.1 h with rfl | h
      · exact ⟨0, rfl, by rw [Nat.add_zero]; exact hg⟩
      · obtain ⟨j, h1, h2⟩ := told_at h
        exact ⟨j + 1, h1, by rw [show k + (j + 1) = k + 1 + j by omega]; exact h2⟩
set_option maxRecDepth 100000 in
/-- a table of which all parity is lost -/
theorem safe_has {F : Fr} (hF : OkL F) (hR : F.R = 256) (hL : F.L.length ≤ 20) (g : List Int) (pad : Bool) {T : Tb} (hT : T = if pad then TbR.padS (tbK F.L g (emptyT 256) F.L.length) (padN F : Nat) else tbK F.L g (emptyT 256) F.L.length) :
    Has T g 0 F.L F.used ∧ Only T g 0 F.L 0 ∧ ∀ x ∈ told g 0 F.L, bytesL T x.1 x.2.size = bl x.2 := by
  have hRC : F.R * F.C ≤ 256 * 191 := by rw [hR]; exact Nat.mul_le_mul_left _ hF.ok.C
  have hu : F.used ≤ 191 * 256 := by have := hF.ok.u; omega
  have hp := part_of (g := g) hF.ch hu F.L.length (Nat.le_refl _)
  have hok := tbK_ok F.L g (LaB.empty_ok (R := 256) (by decide) (by decide)) (by simp [emptyT]) F.L.length (by omega)
  rw [show (emptyT 256).R = 256 from rfl] at hok
  obtain ⟨S, hS⟩ : ∃ S, tbK F.L g (emptyT 256) F.L.length = S := ⟨_, rfl⟩
  rw [hS] at hp hok hT
  clear hS
  have hpn : padN F ≤ 191 := by
    unfold padN
    split
    · omega
    · exact Nat.le_trans (Nat.sub_le _ _) (by decide)
  have hlow : F.used ≤ (191 - padN F) * 256 := by
    by_cases h0 : F.used = 0
    · omega
    · have h1 : padN F = 190 - (F.used - 1) / 256 := by unfold padN; rw [if_neg h0, hR]
      clear hpn
      rw [h1]
      clear h1
      obtain ⟨z, hz⟩ : ∃ z, F.used - 1 = z := ⟨_, rfl⟩
      rw [hz]
      omega
  -- what the table is
  have key : Ok T ∧ T.R = 256 ∧ T.st = S.st ∧ (∀ p, T.b p = S.b p) ∧ (∀ p, S.is p = true → T.is p = true) ∧ (∀ p, p < F.used → T.is p = S.is p) := by
    cases pad with
    | false =>
      rw [if_neg (by decide)] at hT
      subst hT
      exact ⟨hok.1, hok.2.2, rfl, fun _ => rfl, fun _ h => h, fun _ _ => rfl⟩
    | true =>
      rw [if_pos rfl] at hT
      have h1 := LaB.pad_ok hok.1 (padN F : Nat)
      have h2 : TbR.padS S (padN F : Nat) = { S with is := fun p => if (191 - padN F) * S.R ≤ p ∧ p < 191 * S.R then true else S.is p } := by
        unfold TbR.padS TbR.padE
        rw [if_neg (by rw [if_neg (by omega)]; simp), Int.toNat_natCast]
      rw [h2] at h1
      rw [h2] at hT
      subst hT
      refine ⟨h1.1, hok.2.2, rfl, fun _ => rfl, fun p h => ?_, fun p h => ?_⟩
      · show (if (191 - padN F) * S.R ≤ p ∧ p < 191 * S.R then true else S.is p) = true
        rw [h]; split <;> rfl
      · show (if (191 - padN F) * S.R ≤ p ∧ p < 191 * S.R then true else S.is p) = S.is p
        rw [if_neg (by rw [hok.2.2]; omega)]
  obtain ⟨k1, k2, k3, k4, k5, k6⟩ := key
  clear hT hok
  have hknown : ∀ x ∈ told g 0 F.L, ∀ i, i < x.2.size → T.is (x.1 + i) = true ∧ T.b (x.1 + i) = sb x.2 i := fun x hx i hi => by
    obtain ⟨j, h1, h2⟩ := told_at hx
    rw [Nat.zero_add] at h2
    have hj := (List.getElem?_eq_some_iff.1 h1).1
    exact ⟨k5 _ ((hp.is _).2 ⟨j, x, hj, h2, h1, by omega, by omega⟩), by rw [k4]; exact hp.b j x hj h2 h1 i hi⟩
  have hun : ∀ p, S.is p = false ∨ T.b p ≠ 0 ∨ S.is p = true := fun p => by
    cases S.is p
    · exact Or.inl rfl
    · exact Or.inr (Or.inr rfl)
  refine ⟨⟨k1, by rw [k2]; exact hu, hknown, fun j x hx hg => ?_, ?_, fun j x hx hg => ?_⟩, fun z hz _ => ?_, fun x hx => bytes_are (fun i hi => (hknown x hx i hi).2)⟩
  · rw [Nat.zero_add] at hg
    have hin := chain_in hF.ch x (List.mem_of_getElem? hx)
    have h20 := dg_size hin.2.2
    rw [k6 _ (by omega)]
    cases hs : S.is x.1 with
    | false => rfl
    | true =>
      obtain ⟨j', y, h1, h2, h3, h4, h5⟩ := (hp.is x.1).1 hs
      rcases Nat.lt_trichotomy j j' with h | h | h
      · have := chain_lt hF.ch hx h3 h; omega
      · subst h; exact absurd hg h2
      · have := chain_lt hF.ch h3 hx h; omega
  · refine Or.inr ?_
    rw [k4]
    refine hp.z _ ?_
    cases hs : S.is F.used with
    | false => rfl
    | true =>
      obtain ⟨j', y, h1, h2, h3, h4, h5⟩ := (hp.is F.used).1 hs
      have := chain_in hF.ch y (List.mem_of_getElem? h3)
      omega
  · rw [Nat.zero_add] at hg
    rw [k3]
    exact (hp.st _).2 ⟨j, x, (List.getElem?_eq_some_iff.1 hx).1, hg, hx, rfl⟩
  · rw [k3] at hz
    obtain ⟨j, x, h1, h2, h3, h4⟩ := (hp.st z).1 hz
    exact ⟨j, x, h3, by rw [Nat.zero_add]; exact h2, h4⟩
theorem safe_out {F : Fr} (hF : OkL F) (hR : F.R = 256) (hL : F.L.length ≤ 20) (g : List Int) (pad : Bool) {T : Tb} (hT : T = if pad then TbR.padS (tbK F.L g (emptyT 256) F.L.length) (padN F : Nat) else tbK F.L g (emptyT 256) F.L.length) :
    outAt T 0 = (told g 0 F.L).map (fun x => (x.1, x.2.size)) := by
  obtain ⟨h1, h2, _⟩ := safe_has hF hR hL g pad hT
  exact (walk F.L 0 0 hF.ch h1).1 h2
end Go.Proofs.YtlocgilgdnhnlaaGreatDoor.LaP
