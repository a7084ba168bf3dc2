/- What a mended table tells: datagrams of the frame, in order; all of them, if no row failed (plain). -/
import Derived.Test.YtlocgilgdnhnlaaGreatDoorLaQ
namespace Go.Proofs.YtlocgilgdnhnlaaGreatDoor.LaR
open Go Go.Proofs.YtlocgilgdnhnlaaGreatDoor.St Go.Proofs.YtlocgilgdnhnlaaGreatDoor.BiH Go.Proofs.YtlocgilgdnhnlaaGreatDoor.DgB Go.Proofs.YtlocgilgdnhnlaaGreatDoor.DgC Go.Proofs.YtlocgilgdnhnlaaGreatDoor.TlS Go.Proofs.YtlocgilgdnhnlaaGreatDoor.TbM Go.Proofs.YtlocgilgdnhnlaaGreatDoor.TbO Go.Proofs.YtlocgilgdnhnlaaGreatDoor.TbP Go.Proofs.YtlocgilgdnhnlaaGreatDoor.TbQ Go.Proofs.YtlocgilgdnhnlaaGreatDoor.TbT Go.Proofs.YtlocgilgdnhnlaaGreatDoor.TbU Go.Proofs.YtlocgilgdnhnlaaGreatDoor.PoA Go.Proofs.YtlocgilgdnhnlaaGreatDoor.TbV Go.Proofs.YtlocgilgdnhnlaaGreatDoor.TbW Go.Proofs.YtlocgilgdnhnlaaGreatDoor.FrA Go.Proofs.YtlocgilgdnhnlaaGreatDoor.FrB Go.Proofs.YtlocgilgdnhnlaaGreatDoor.LaE Go.Proofs.YtlocgilgdnhnlaaGreatDoor.LaH Go.Proofs.YtlocgilgdnhnlaaGreatDoor.LaI Go.Proofs.YtlocgilgdnhnlaaGreatDoor.LaP Go.Proofs.YtlocgilgdnhnlaaGreatDoor.LaQ

/-- a datagram that is cut begins with none -/
theorem fs_strict {X : ByteArray} (h : dgE X = 0) (k : Nat) (hk : k < X.size) : fsN (X.extract 0 k) = 0 := by
  have h20 := dg_size h
  have hp : pkE X = 0 := by
    unfold dgE at h
    split at h
    · rename_i h1; exact absurd h h1
    · rename_i h1; simpa using h1
  have hl : (pkH X).length = X.size := by
    unfold dgE at h
    rw [if_neg (by simpa using hp)] at h
    split at h
    · cases h
    · split at h
      · cases h
      · omega
  obtain ⟨s, hs⟩ : ∃ s, X.extract 0 k = s := ⟨_, rfl⟩
  have hsz : s.size = k := by rw [← hs, ByteArray.size_extract]; omega
  have ha : ∀ i, i < k → at0 s i = at0 X i := fun i hi => by
    rw [← hs]
    unfold at0
    rw [ByteArray.data_extract, Array.getElem?_extract, if_pos (by have : X.size = X.data.size := rfl; omega), Nat.zero_add]
  rw [hs]
  unfold fsN
  rw [if_neg]
  rintro ⟨e1, e2, _⟩
  have hlen : (pkH s).length = X.size := by
    rw [← hl]
    have e3 := e1
    have hp2 := hp
    unfold pkE at e3 hp2
    rw [if_neg (by omega)] at hp2
    rw [hsz] at e3
    by_cases hk0 : k = 0
    · rw [if_pos hk0] at e3; cases e3
    rw [if_neg hk0] at e3
    by_cases h4 : at0 s 0 / 16 = 4
    · rw [if_pos h4] at e3
      have x4 : at0 X 0 / 16 = 4 := by rw [← ha 0 (by omega)]; exact h4
      by_cases h20s : k < 20
      · rw [if_pos h20s] at e3; cases e3
      · unfold pkH
        rw [if_pos e1, if_pos hp, if_pos h4, if_pos x4]
        unfold hd4
        rw [ha 0 (by omega), ha 2 (by omega), ha 3 (by omega), ha 9 (by omega)]
    · rw [if_neg h4] at e3
      by_cases h6 : at0 s 0 / 16 = 6
      · rw [if_pos h6] at e3
        have x6 : at0 X 0 / 16 = 6 := by rw [← ha 0 (by omega)]; exact h6
        by_cases h40 : k < 40
        · rw [if_pos h40] at e3; cases e3
        · unfold pkH
          rw [if_pos e1, if_pos hp, if_neg h4, if_neg (by omega)]
          unfold hd6
          rw [ha 4 (by omega), ha 5 (by omega), ha 6 (by omega)]
      · rw [if_neg h6] at e3; cases e3
  rw [hlen, hsz] at e2
  omega
theorem kn_stop (S : Tb) : ∀ (i f p : Nat), atI S ((p + i : Nat) : Int) = false → kn S p f ≤ i
  | _, 0, _, _ => Nat.zero_le _
  | 0, f + 1, p, h => by
    rw [Nat.add_zero] at h
    rw [kn, if_neg (by rw [h]; decide)]
    omega
  | i + 1, f + 1, p, h => by
    rw [kn]
    split
    · have := kn_stop S i f (p + 1) (by rw [show p + 1 + i = p + (i + 1) by omega]; exact h)
      omega
    · omega
theorem kn_all (S : Tb) : ∀ (f p i : Nat), i < kn S p f → atI S ((p + i : Nat) : Int) = true
  | 0, p, i, h => by rw [kn] at h; omega
  | f + 1, p, 0, h => by
    rw [kn] at h
    split at h
    · assumption
    · omega
  | f + 1, p, i + 1, h => by
    rw [kn] at h
    split at h
    · have := kn_all S f (p + 1) i (by omega)
      rw [show p + 1 + i = p + (i + 1) by omega] at this
      exact this
    · omega
/-- a datagram that is not wholly known is not told -/
theorem dN_part {S : Tb} {p i : Nat} {X : ByteArray} (hd : dgE X = 0) (hb : ∀ j, j < X.size → S.is (p + j) = true → S.b (p + j) = sb X j) (hi : i < X.size) (hn : S.is (p + i) = false) : dN S p = 0 := by
  have h1 : kn S p 4080 ≤ i := kn_stop S i 4080 p (by rw [atI_nat', hn, Bool.and_false])
  have h2 : knS S p = X.extract 0 (kn S p 4080) := by
    refine bl_inj ?_
    unfold knS
    rw [bl_str, ext_bl, List.drop_zero, Nat.sub_zero]
    apply List.ext_getElem (by rw [bytesL_len, List.length_take, bl_len]; omega)
    intro j h3 h4
    rw [bytesL_len] at h3
    have h5 := kn_all S 4080 p j h3
    rw [atI_nat', Bool.and_eq_true] at h5
    have h6 := sb_bl X j (by omega)
    rw [List.getElem_take]
    rw [List.getElem?_eq_getElem (by rw [bl_len]; omega)] at h6
    rw [Option.some.inj h6]
    simp only [bytesL, List.getElem_map, List.getElem_range]
    exact hb j (by omega) h5.2
  show fsN (knS S p) = 0
  rw [h2]
  exact fs_strict hd _ (by omega)
theorem dN_out {S : Tb} {p : Nat} (h : 191 * S.R ≤ p) : dN S p = 0 := by
  refine fs_none (Or.inl ?_)
  rw [kn_size]
  have : kn S p 4080 ≤ 0 := kn_stop S 0 4080 p (by rw [Nat.add_zero, atI_nat', decide_eq_false (by omega)]; rfl)
  omega
/-- a table that holds nothing but the frame's -/
structure Sees (F : Fr) (S : Tb) : Prop where
  R : S.R = 256
  ok : Ok S
  b : ∀ q, q < 191 * 256 → S.is q = true → S.b q = Dp F q
  st : ∀ z ∈ S.st, ∃ x ∈ F.L, z = x.1
def Whole (S : Tb) (x : Nat × ByteArray) : Prop := ∀ i, i < x.2.size → S.is (x.1 + i) = true
structure Tells (S : Tb) (L : List (Nat × ByteArray)) (a : Nat) : Prop where
  sub : ∃ M : List (Nat × ByteArray), M.Sublist L ∧ outAt S a = M.map (fun x => (x.1, x.2.size)) ∧ (∀ x ∈ M, Whole S x) ∧ ((∀ x ∈ L, Whole S x) → (∀ x ∈ L, a ≤ x.1) → (∀ y, L.head? = some y → y.1 = a) → M = L)
section
variable {F : Fr} {S : Tb}
theorem walk2 (hl : LayF F) (hR : F.R = 256) (ho : OkL F) (h : Sees F S) : ∀ (L : List (Nat × ByteArray)) (a : Nat), Chain a L F.used → (∀ x ∈ L, x ∈ F.L) → (∀ z ∈ S.st, a ≤ z → ∃ x ∈ L, z = x.1) →
    (∃ M : List (Nat × ByteArray), M.Sublist L ∧ outAt S a = M.map (fun x => (x.1, x.2.size)) ∧ (∀ x ∈ M, Whole S x) ∧ ((∀ x ∈ L, Whole S x) → M = L)) ∧
    (∀ b, b < a → dN S b = 0 → (∀ z ∈ S.st, b < z → a ≤ z) → ∃ M : List (Nat × ByteArray), M.Sublist L ∧ outAt S b = M.map (fun x => (x.1, x.2.size)) ∧ (∀ x ∈ M, Whole S x))
  | [], a, hc, _, hst => by
    obtain rfl : a = F.used := hc
    have hu : F.used ≤ 191 * 256 := by
      have h2 := ho.ok.u
      have h3 : F.R * F.C ≤ 256 * 191 := by rw [hR]; exact Nat.mul_le_mul_left _ ho.ok.C
      omega
    have hd : dN S F.used = 0 := by
      by_cases e : F.used < 191 * 256
      · refine dN_no ?_
        cases hi : S.is F.used with
        | false => exact Or.inl rfl
        | true => exact Or.inr (by rw [h.b _ e hi]; exact Dp_none hl hR _ (Nat.le_refl _) e)
      · exact dN_out (by rw [h.R]; omega)
    have hno : ∀ z ∈ S.st, F.used ≤ z → False := fun z hz hle => by
      obtain ⟨x, hx, _⟩ := hst z hz hle
      cases hx
    refine ⟨⟨[], List.Sublist.refl _, outAt_end (by rw [h.R]; exact hu) (by rw [hd]; decide) (nxt_none fun z hz => ?_), fun x hx => (by cases hx), fun _ => rfl⟩, fun b hb hdb hnb => ⟨[], List.Sublist.refl _, outAt_end (by rw [h.R]; omega) (by rw [hdb]; decide) (nxt_none fun z hz => ?_), fun x hx => (by cases hx)⟩⟩
    · rcases Nat.lt_or_ge F.used z with h1 | h1
      · exact (hno z hz (by omega)).elim
      · exact h1
    · rcases Nat.lt_or_ge b z with h1 | h1
      · exact (hno z hz (hnb z hz h1)).elim
      · exact h1
  | (q, d) :: t, a, hc, hin, hst => by
    obtain ⟨hqa, hd, hct⟩ := hc
    subst hqa
    have h20 := dg_size hd
    have hu : F.used ≤ 191 * 256 := by
      have h2 := ho.ok.u
      have h3 : F.R * F.C ≤ 256 * 191 := by rw [hR]; exact Nat.mul_le_mul_left _ ho.ok.C
      omega
    have hcle := chain_le hct
    have hmem := hin (q, d) (by simp)
    have hgap : ∀ z ∈ S.st, q < z → q + d.size ≤ z := fun z hz hqz => by
      obtain ⟨x, hx, e⟩ := hst z hz (by omega)
      rcases List.mem_cons.1 hx with e2 | hx
      · subst e2; subst e; exact absurd hqz (Nat.lt_irrefl _)
      · have := (chain_in hct x hx).1; omega
    have hst2 : ∀ z ∈ S.st, q + d.size ≤ z → ∃ x ∈ t, z = x.1 := fun z hz hle => by
      obtain ⟨x, hx, e⟩ := hst z hz (by omega)
      rcases List.mem_cons.1 hx with e2 | hx
      · subst e2; subst e; omega
      · exact ⟨x, hx, e⟩
    obtain ⟨ihM, ihN⟩ := walk2 hl hR ho h t (q + d.size) hct (fun x hx => hin x (by simp [hx])) hst2
    have hbq : ∀ j, j < d.size → S.is (q + j) = true → S.b (q + j) = sb d j := fun j hj hi => by
      rw [h.b _ (by omega) hi]
      exact Dp_gram hl hR ho (q, d) hmem j hj
    have main : ∃ M : List (Nat × ByteArray), M.Sublist ((q, d) :: t) ∧ outAt S q = M.map (fun x => (x.1, x.2.size)) ∧ (∀ x ∈ M, Whole S x) ∧ ((∀ x ∈ (q, d) :: t, Whole S x) → M = (q, d) :: t) := by
      by_cases hw : Whole S (q, d)
      · have hy : dN S q = d.size := dN_yes hd (by rw [h.R]; omega) hw (fun i hi => hbq i hi (hw i hi))
        obtain ⟨M, m1, m2, m3, m4⟩ := ihM
        refine ⟨(q, d) :: M, m1.cons_cons _, ?_, ?_, ?_⟩
        · rw [outAt_yes h.ok (by rw [h.R]; omega) (by rw [hy]; omega), hy, m2]
          rfl
        · intro x hx
          rcases List.mem_cons.1 hx with rfl | hx
          · exact hw
          · exact m3 x hx
        · intro hall
          rw [m4 (fun x hx => hall x (by simp [hx]))]
      · have hdn : dN S q = 0 := by
          obtain ⟨i, hi⟩ := Classical.not_forall.1 hw
          obtain ⟨hi, hni⟩ := Classical.not_imp.1 hi
          exact dN_part hd hbq hi (by simpa using hni)
        obtain ⟨M, m1, m2, m3⟩ := ihN q (by omega) hdn hgap
        exact ⟨M, m1.cons _, m2, m3, fun hall => absurd (hall (q, d) (by simp)) hw⟩
    refine ⟨main, fun b hb hdb hnb => ?_⟩
    by_cases hq : q ∈ S.st
    · obtain ⟨M, m1, m2, m3, _⟩ := main
      refine ⟨M, m1, ?_, m3⟩
      rw [outAt_next h.ok (by rw [h.R]; omega) (by rw [hdb]; decide) (nxt_some h.ok.up hq hb (fun z hz hbz => hnb z hz hbz))]
      exact m2
    · obtain ⟨M, m1, m2, m3⟩ := ihN b (by omega) hdb (fun z hz hbz => by
        have h1 := hnb z hz hbz
        have h2 : q ≠ z := fun e => hq (e ▸ hz)
        exact hgap z hz (by omega))
      exact ⟨M, m1.cons _, m2, m3⟩
theorem sees_out (hl : LayF F) (hR : F.R = 256) (ho : OkL F) (h : Sees F S) : ∃ M : List (Nat × ByteArray), M.Sublist F.L ∧ outAt S 0 = M.map (fun x => (x.1, x.2.size)) ∧ (∀ x ∈ M, bytesL S x.1 x.2.size = bl x.2) ∧ ((∀ x ∈ F.L, Whole S x) → M = F.L) := by
  obtain ⟨M, m1, m2, m3, m4⟩ := (walk2 hl hR ho h F.L 0 ho.ch (fun x hx => hx) (fun z hz _ => h.st z hz)).1
  refine ⟨M, m1, m2, fun x hx => bytes_are (fun i hi => ?_), m4⟩
  have hx2 := m1.subset hx
  have h1 := chain_in ho.ch x hx2
  have h2 := ho.ok.u
  have h3 : F.R * F.C ≤ 256 * 191 := by rw [hR]; exact Nat.mul_le_mul_left _ ho.ok.C
  rw [h.b _ (by omega) (m3 x hx i hi)]
  exact Dp_gram hl hR ho x hx2 i hi
/-- the mended table -/
theorem mended_sees {T : Tb} {A B : Nat → Prop} (k : Kn F T A B) (hT : Ok T) (hB : ∀ z, B z → ∃ x ∈ F.L, z = x.1) : Sees F (mdS T (rowC F) 256) := by
  have hR := k.R
  refine ⟨hR, ⟨hT.R, hT.R0, hT.st, hT.up, hT.lt⟩, fun q hq hi => ?_, fun z hz => hB z ((k.st z).1 hz)⟩
  have hr : q % 256 < T.R := by rw [hR]; exact Nat.mod_lt _ (by decide)
  have hc : q / 256 < 255 := by omega
  have hqq : q = q / 256 * T.R + q % 256 := by rw [hR]; omega
  have e1 := mdS_is T (rowC F) 256 (q % 256) (q / 256) hr hc
  have e2 := mdS_b T (rowC F) 256 (q % 256) (q / 256) hr hc
  rw [← hqq] at e1 e2
  rw [e1] at hi
  rw [e2]
  by_cases h : q % 256 < 256 ∧ okR T (q % 256) = true
  · rw [if_pos h, rowC_at F _ _ hc]
    rfl
  · rw [if_neg h] at hi ⊢
    exact k.b q ((k.is q).1 hi)
theorem cnt_zero {T : Tb} {n : Nat} (h : cntF T n = 0) (r : Nat) (hr : r < n) : badR T r = false := by
  unfold cntF at h
  have h1 := List.eq_nil_of_length_eq_zero h
  rw [List.filter_eq_nil_iff] at h1
  simpa using h1 r (List.mem_range.2 hr)
theorem mended_whole {T : Tb} (hR : T.R = 256) (h : cntF T 256 = 0) (C : Nat → List UInt8) (q : Nat) (hq : q < 191 * 256) : (mdS T C 256).is q = true := by
  have hr : q % 256 < T.R := by rw [hR]; exact Nat.mod_lt _ (by decide)
  have hc : q / 256 < 255 := by omega
  have hqq : q = q / 256 * T.R + q % 256 := by rw [hR]; omega
  have e1 := mdS_is T C 256 (q % 256) (q / 256) hr hc
  rw [← hqq] at e1
  rw [e1]
  split
  · rfl
  · rename_i hno
    have hb := cnt_zero h (q % 256) (Nat.mod_lt _ (by decide))
    cases hi : T.is q with
    | true => rfl
    | false =>
      exfalso
      apply hno
      refine ⟨Nat.mod_lt _ (by decide), ?_⟩
      have hm : q / 256 ∈ lostL T (q % 256) := (lost_mem T (q % 256) (q / 256)).2 ⟨hc, by rw [← hqq]; exact hi⟩
      have hp := List.length_pos_of_mem hm
      unfold badR at hb
      have hb := of_decide_eq_false hb
      exact decide_eq_true ⟨hp, by omega⟩
/-- mended again -/
theorem lost_again (T : Tb) (C : Nat → List UInt8) (r : Nat) (hr : r < T.R) : lostL (mdS T C T.R) r = if okR T r = true then [] else lostL T r := by
  by_cases h : okR T r = true
  · rw [if_pos h]
    unfold lostL lostN
    rw [List.filter_eq_nil_iff]
    intro c hc
    rw [show (mdS T C T.R).R = T.R from rfl, mdS_is T C T.R r c hr (List.mem_range.1 hc), if_pos ⟨hr, h⟩]
    decide
  · rw [if_neg h]
    exact lost_same (fun c hc => by rw [show (mdS T C T.R).R = T.R from rfl, mdS_is T C T.R r c hr hc, if_neg (fun e => h e.2)])
theorem again_M (T : Tb) (C : Nat → List UInt8) : cntM (mdS T C T.R) T.R = 0 := by
  unfold cntM
  rw [List.length_eq_zero_iff, List.filter_eq_nil_iff]
  intro r hr
  have hr := List.mem_range.1 hr
  unfold okR
  rw [lost_again T C r hr]
  by_cases h : okR T r = true
  · rw [if_pos h]; simp
  · rw [if_neg h]
    exact h
theorem again_F (T : Tb) (C : Nat → List UInt8) : cntF (mdS T C T.R) T.R = cntF T T.R := by
  unfold cntF
  congr 1
  refine List.filter_congr (fun r hr => ?_)
  have hr := List.mem_range.1 hr
  unfold badR
  rw [lost_again T C r hr]
  by_cases h : okR T r = true
  · rw [if_pos h]
    have := of_decide_eq_true h
    simp only [List.length_nil]
    rw [decide_eq_false (by omega), decide_eq_false (by omega)]
  · rw [if_neg h]
end
theorem ts_ok (C K : Nat) (l g p : List Int) (pad : Bool) (hl : l.length ≤ 20) : Ok (tbS C K l g p pad) := by
  have h1 := frK_len 256 C K l l.length
  have h2 := (tbK_ok (frS C K l).L g (LaB.empty_ok (R := 256) (by decide) (by decide)) (by simp [emptyT]) (frS C K l).L.length (by show (frK 256 C K l l.length).L.length ≤ 1000; omega)).1
  have h3 := (tbM_ok (FrC.parL (frS C K l) (64 - K)) p h2 (64 - K)).1
  unfold tbS
  dsimp only
  cases pad with
  | false => exact h3
  | true => exact (LaB.pad_ok h3 _).1
end Go.Proofs.YtlocgilgdnhnlaaGreatDoor.LaR
