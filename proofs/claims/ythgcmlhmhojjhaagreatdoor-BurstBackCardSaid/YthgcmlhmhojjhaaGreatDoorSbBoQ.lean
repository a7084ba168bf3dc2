/- What is out of a gatherer that took some of a frame's sections; that few that are lost let no row fail (plain). -/
import Derived.Test.YthgcmlhmhojjhaaGreatDoorSbBoP
namespace Go.Proofs.YthgcmlhmhojjhaaGreatDoor.BoQ
open Go Go.Proofs.YthgcmlhmhojjhaaGreatDoor.St Go.Proofs.YthgcmlhmhojjhaaGreatDoor.DgC Go.Proofs.YthgcmlhmhojjhaaGreatDoor.TlS Go.Proofs.YthgcmlhmhojjhaaGreatDoor.TbM Go.Proofs.YthgcmlhmhojjhaaGreatDoor.TbO Go.Proofs.YthgcmlhmhojjhaaGreatDoor.TbP Go.Proofs.YthgcmlhmhojjhaaGreatDoor.TbQ Go.Proofs.YthgcmlhmhojjhaaGreatDoor.TbT Go.Proofs.YthgcmlhmhojjhaaGreatDoor.TbU Go.Proofs.YthgcmlhmhojjhaaGreatDoor.TbV Go.Proofs.YthgcmlhmhojjhaaGreatDoor.TbW Go.Proofs.YthgcmlhmhojjhaaGreatDoor.FrA Go.Proofs.YthgcmlhmhojjhaaGreatDoor.FrB Go.Proofs.YthgcmlhmhojjhaaGreatDoor.FrC Go.Proofs.YthgcmlhmhojjhaaGreatDoor.LaE Go.Proofs.YthgcmlhmhojjhaaGreatDoor.LaH Go.Proofs.YthgcmlhmhojjhaaGreatDoor.LaI Go.Proofs.YthgcmlhmhojjhaaGreatDoor.LaP Go.Proofs.YthgcmlhmhojjhaaGreatDoor.LaQ Go.Proofs.YthgcmlhmhojjhaaGreatDoor.LaR Go.Proofs.YthgcmlhmhojjhaaGreatDoor.BoP

/-- a table that holds nothing but the frame's, and the zeros behind it -/
structure Sees2 (F : Fr) (S : Tb) : Prop where
  R : S.R = 256
  ok : Ok S
  b : ∀ q, q < 191 * 256 → S.is q = true → S.b q = Dp F q
  st : ∀ z ∈ S.st, (∃ x ∈ F.L, z = x.1) ∨ z = F.used
section
variable {F : Fr} {S : Tb}
theorem walk3 (hl : LayF F) (hR : F.R = 256) (ho : OkL F) (h : Sees2 F S) : ∀ (L : List (Nat × ByteArray)) (a : Nat), Chain a L F.used → (∀ x ∈ L, x ∈ F.L) → (∀ z ∈ S.st, a ≤ z → (∃ x ∈ L, z = x.1) ∨ z = F.used) →
    (∃ M : List (Nat × ByteArray), M.Sublist L ∧ outAt S a = M.map (fun x => (x.1, x.2.size)) ∧ (∀ x ∈ M, Whole S x) ∧ ((∀ x ∈ L, Whole S x) → M = L) ∧ (∀ x ∈ L, Whole S x → x.1 ∈ S.st → x ∈ M)) ∧
    (∀ b, b < a → dN S b = 0 → (∀ z ∈ S.st, b < z → a ≤ z) → ∃ M : List (Nat × ByteArray), M.Sublist L ∧ outAt S b = M.map (fun x => (x.1, x.2.size)) ∧ (∀ x ∈ M, Whole S x) ∧ (∀ x ∈ L, Whole S x → x.1 ∈ S.st → x ∈ M))
  | [], a, hc, _, hst => by
    obtain rfl : a = F.used := hc
    have hu : F.used ≤ 191 * 256 := by
      have h2 := ho.ok.u
      have h3 : F.R * F.C ≤ 256 * 191 := by rw [hR]; exact Nat.mul_le_mul_left _ ho.ok.C
      omega
    have hd : dN S F.used = 0 := by
      by_cases e : F.used < 191 * 256
      · refine dN_no ?_
        cases hi : S.is F.used with
        | false => exact Or.inl rfl
        | true => exact Or.inr (by rw [h.b _ e hi]; exact Dp_none hl hR _ (Nat.le_refl _) e)
      · exact dN_out (by rw [h.R]; omega)
    have hno : ∀ z ∈ S.st, F.used ≤ z → z = F.used := fun z hz hle => by
      rcases hst z hz hle with ⟨x, hx, _⟩ | e
      · cases hx
      · exact e
    have hend : outAt S F.used = [] := outAt_end (by rw [h.R]; exact hu) (by rw [hd]; decide) (nxt_none fun z hz => by
      rcases Nat.lt_or_ge F.used z with h1 | h1
      · have := hno z hz (by omega); omega
      · exact h1)
    refine ⟨⟨[], List.Sublist.refl _, hend, fun x hx => (by cases hx), fun _ => rfl, fun x hx => (by cases hx)⟩, fun b hb hdb hnb => ⟨[], List.Sublist.refl _, ?_, fun x hx => (by cases hx), fun x hx => (by cases hx)⟩⟩
    by_cases hq : F.used ∈ S.st
    · rw [outAt_next h.ok (by rw [h.R]; omega) (by rw [hdb]; decide) (nxt_some h.ok.up hq hb (fun z hz hbz => hnb z hz hbz))]
      exact hend
    · refine outAt_end (by rw [h.R]; omega) (by rw [hdb]; decide) (nxt_none fun z hz => ?_)
      rcases Nat.lt_or_ge b z with h1 | h1
      · have h2 := hnb z hz h1
        have h3 := hno z hz h2
        exact absurd (h3 ▸ hz) hq
      · exact h1
  | (q, d) :: t, a, hc, hin, hst => by
    obtain ⟨hqa, hd, hct⟩ := hc
    subst hqa
    have h20 := dg_size hd
    have hu : F.used ≤ 191 * 256 := by
      have h2 := ho.ok.u
      have h3 : F.R * F.C ≤ 256 * 191 := by rw [hR]; exact Nat.mul_le_mul_left _ ho.ok.C
      omega
    have hcle := chain_le hct
    have hmem := hin (q, d) (by simp)
    have hgap : ∀ z ∈ S.st, q < z → q + d.size ≤ z := fun z hz hqz => by
      rcases hst z hz (by omega) with ⟨x, hx, e⟩ | e
      · rcases List.mem_cons.1 hx with e2 | hx
        · subst e2; subst e; exact absurd hqz (Nat.lt_irrefl _)
        · have := (chain_in hct x hx).1; omega
      · omega
    have hst2 : ∀ z ∈ S.st, q + d.size ≤ z → (∃ x ∈ t, z = x.1) ∨ z = F.used := fun z hz hle => by
      rcases hst z hz (by omega) with ⟨x, hx, e⟩ | e
      · rcases List.mem_cons.1 hx with e2 | hx
        · subst e2; subst e; omega
        · exact Or.inl ⟨x, hx, e⟩
      · exact Or.inr e
    obtain ⟨ihM, ihN⟩ := walk3 hl hR ho h t (q + d.size) hct (fun x hx => hin x (by simp [hx])) hst2
    have hbq : ∀ j, j < d.size → S.is (q + j) = true → S.b (q + j) = sb d j := fun j hj hi => by
      rw [h.b _ (by omega) hi]
      exact Dp_gram hl hR ho (q, d) hmem j hj
    have main : ∃ M : List (Nat × ByteArray), M.Sublist ((q, d) :: t) ∧ outAt S q = M.map (fun x => (x.1, x.2.size)) ∧ (∀ x ∈ M, Whole S x) ∧ ((∀ x ∈ (q, d) :: t, Whole S x) → M = (q, d) :: t) ∧ (∀ x ∈ (q, d) :: t, Whole S x → x.1 ∈ S.st → x ∈ M) := by
      by_cases hw : Whole S (q, d)
      · have hy : dN S q = d.size := dN_yes hd (by rw [h.R]; omega) hw (fun i hi => hbq i hi (hw i hi))
        obtain ⟨M, m1, m2, m3, m4, m5⟩ := ihM
        refine ⟨(q, d) :: M, m1.cons_cons _, ?_, ?_, ?_, ?_⟩
        · rw [outAt_yes h.ok (by rw [h.R]; omega) (by rw [hy]; omega), hy, m2]
          rfl
        · intro x hx
          rcases List.mem_cons.1 hx with rfl | hx
          · exact hw
          · exact m3 x hx
        · intro hall
          rw [m4 (fun x hx => hall x (by simp [hx]))]
        · intro x hx hwx hsx
          rcases List.mem_cons.1 hx with rfl | hx
          · simp
          · exact List.mem_cons_of_mem _ (m5 x hx hwx hsx)
      · have hdn : dN S q = 0 := by
          obtain ⟨i, hi⟩ := Classical.not_forall.1 hw
          obtain ⟨hi, hni⟩ := Classical.not_imp.1 hi
          exact dN_part hd hbq hi (by simpa using hni)
        obtain ⟨M, m1, m2, m3, m5⟩ := ihN q (by omega) hdn hgap
        exact ⟨M, m1.cons _, m2, m3, fun hall => absurd (hall (q, d) (by simp)) hw, fun x hx hwx hsx => by
          rcases List.mem_cons.1 hx with rfl | hx
          · exact absurd hwx hw
          · exact m5 x hx hwx hsx⟩
    refine ⟨main, fun b hb hdb hnb => ?_⟩
    by_cases hq : q ∈ S.st
    · obtain ⟨M, m1, m2, m3, _, m5⟩ := main
      refine ⟨M, m1, ?_, m3, m5⟩
      rw [outAt_next h.ok (by rw [h.R]; omega) (by rw [hdb]; decide) (nxt_some h.ok.up hq hb (fun z hz hbz => hnb z hz hbz))]
      exact m2
    · obtain ⟨M, m1, m2, m3, m5⟩ := ihN b (by omega) hdb (fun z hz hbz => by
        have h1 := hnb z hz hbz
        have h2 : q ≠ z := fun e => hq (e ▸ hz)
        exact hgap z hz (by omega))
      exact ⟨M, m1.cons _, m2, m3, fun x hx hwx hsx => by
        rcases List.mem_cons.1 hx with rfl | hx
        · exact absurd hsx hq
        · exact m5 x hx hwx hsx⟩
end
/-- what is out -/
structure OutOk (F : Fr) (S : Tb) (P : Nat → Prop) (M : List (Nat × ByteArray)) : Prop where
  sub : M.Sublist F.L
  out : outAt S 0 = M.map (fun x => (x.1, x.2.size))
  txt : ∀ x ∈ M, bytesL S x.1 x.2.size = bl x.2
  has : ∀ (i : Nat) x, F.L[i]? = some x → P i → x ∈ M
theorem mended_out {F : Fr} {T : Tb} {P : Nat → Prop} (hF : FrS F) (h : KnS F T P) :
    ∃ M, OutOk F (mdS T (rowC F) 256) P M ∧ (cntF T 256 = 0 → M = F.L) := by
  have hR := h.1.R
  have hB : ∀ z, (∃ i, i < F.L.length + (64 - F.K) ∧ P i ∧ cvB F i z) → (∃ x ∈ F.L, z = x.1) ∨ z = F.used := fun z ⟨i, _, _, x, hx, e⟩ => by
    rcases e with e | ⟨_, e, _⟩
    · exact Or.inl ⟨x, List.mem_of_getElem? hx, e⟩
    · exact Or.inr e
  have hS : Sees2 F (mdS T (rowC F) 256) := by
    refine ⟨hR, ⟨h.2.R, h.2.R0, h.2.st, h.2.up, h.2.lt⟩, fun q hq hi => ?_, fun z hz => hB z ((h.1.st z).1 hz)⟩
    have hr : q % 256 < T.R := by rw [hR]; exact Nat.mod_lt _ (by decide)
    have hc : q / 256 < 255 := by omega
    have hqq : q = q / 256 * T.R + q % 256 := by rw [hR]; omega
    have e1 := mdS_is T (rowC F) 256 (q % 256) (q / 256) hr hc
    have e2 := mdS_b T (rowC F) 256 (q % 256) (q / 256) hr hc
    rw [← hqq] at e1 e2
    rw [e1] at hi
    rw [e2]
    by_cases h2 : q % 256 < 256 ∧ okR T (q % 256) = true
    · rw [if_pos h2, rowC_at F _ _ hc]
      rfl
    · rw [if_neg h2] at hi ⊢
      exact h.1.b q ((h.1.is q).1 hi)
  have hu := hF.u
  obtain ⟨M, m1, m2, m3, m4, m5⟩ := (walk3 hF.lay hF.mks.R hF.ok hS F.L 0 hF.ok.ch (fun x hx => hx) (fun z hz _ => hS.st z hz)).1
  refine ⟨M, ⟨m1, m2, fun x hx => bytes_are (fun i hi => ?_), fun i x hx hp => ?_⟩, fun h0 => m4 (fun x hx i hi => ?_)⟩
  · have hx2 := m1.subset hx
    have h1 := chain_in hF.ok.ch x hx2
    rw [hS.b _ (by omega) (m3 x hx i hi)]
    exact Dp_gram hF.lay hF.mks.R hF.ok x hx2 i hi
  · have hi := (List.getElem?_eq_some_iff.1 hx).1
    have hmem := List.mem_of_getElem? hx
    have h1 := chain_in hF.ok.ch x hmem
    refine m5 x hmem (fun j hj => ?_) ((h.1.st x.1).2 ⟨i, by omega, hp, x, hx, Or.inl rfl⟩)
    have hq : T.is (x.1 + j) = true := (h.1.is _).2 ⟨i, by omega, hp, Or.inl ⟨x, hx, Or.inl ⟨by omega, by omega⟩⟩⟩
    have hr : (x.1 + j) % 256 < T.R := by rw [hR]; exact Nat.mod_lt _ (by decide)
    have hqq : x.1 + j = (x.1 + j) / 256 * T.R + (x.1 + j) % 256 := by rw [hR]; omega
    have e1 := mdS_is T (rowC F) 256 ((x.1 + j) % 256) ((x.1 + j) / 256) hr (by omega)
    rw [← hqq] at e1
    rw [e1, hq, ite_self]
  · have h1 := chain_in hF.ok.ch x hx
    exact mended_whole hR h0 (rowC F) _ (by omega)
/-- a list is no longer than one into which it goes -/
theorem len_le {α : Type} (R : α → Nat → Prop) : ∀ (l : List α) (m : List Nat), l.Nodup → (∀ a ∈ l, ∃ b ∈ m, R a b) → (∀ a ∈ l, ∀ a' ∈ l, ∀ b, R a b → R a' b → a = a') → l.length ≤ m.length
  | [], _, _, _, _ => Nat.zero_le _
  | a :: t, m, hn, h1, h2 => by
    obtain ⟨b, hb, hr⟩ := h1 a (by simp)
    obtain ⟨hna, hnt⟩ := List.nodup_cons.1 hn
    have ih := len_le R t (m.erase b) hnt (fun a' ha' => by
      obtain ⟨b', hb', hr'⟩ := h1 a' (by simp [ha'])
      refine ⟨b', (List.mem_erase_of_ne (fun e => ?_)).2 hb', hr'⟩
      subst e
      exact hna ((h2 a (by simp) a' (by simp [ha']) _ hr hr') ▸ ha')) (fun x hx y hy b => h2 x (by simp [hx]) y (by simp [hy]) b)
    rw [List.length_erase_of_mem hb] at ih
    have := List.length_pos_of_mem hb
    simp only [List.length_cons]
    omega
/-- few that are lost let no row fail -/
theorem none_fails {F : Fr} {T : Tb} {tk : Nat → Bool} (hF : FrS F) (h : KnS F T (fun i => tk i = true)) (hsh : ∀ x ∈ F.L, x.2.size ≤ 256)
    (hlost : ((List.range (F.L.length + (64 - F.K))).filter (fun i => !tk i)).length + F.K ≤ 63) : cntF T 256 = 0 := by
  have hR := h.1.R
  have hu := hF.u
  have hK := hF.mks.K
  have hU : 0 < F.used := by have := hF.mks.pos hF.n0; omega
  obtain ⟨p1, p2⟩ := used_div hF hU
  -- the padding is known
  have hpad : ∃ i, i < F.L.length + (64 - F.K) ∧ tk i = true ∧ F.L.length ≤ i + 1 := by
    refine Classical.byContradiction fun hno => ?_
    have hall : ∀ i, i < F.L.length + (64 - F.K) → F.L.length ≤ i + 1 → tk i = false := fun i h1 h2 => by
      cases e : tk i with
      | false => rfl
      | true => exact absurd ⟨i, h1, e, h2⟩ hno
    have h0 : 0 < F.L.length := Nat.pos_of_ne_zero hF.n0
    have := len_le (fun a b => b = F.L.length - 1 + a) (List.range (1 + (64 - F.K))) ((List.range (F.L.length + (64 - F.K))).filter (fun i => !tk i)) List.nodup_range
      (fun a ha => by
        have ha := List.mem_range.1 ha
        exact ⟨F.L.length - 1 + a, List.mem_filter.2 ⟨List.mem_range.2 (by omega), by rw [hall _ (by omega) (by omega)]; rfl⟩, rfl⟩)
      (fun a _ a' _ b e1 e2 => by omega)
    rw [List.length_range] at this
    omega
  have hknown : ∀ q, (F.used + 256 - 1) / 256 * 256 ≤ q → q < 191 * 256 → T.is q = true := fun q h1 h2 => by
    obtain ⟨i, hi, ht, hl⟩ := hpad
    refine (h.1.is q).2 ⟨i, hi, ht, ?_⟩
    by_cases e : i + 1 = F.L.length
    · obtain ⟨x, hx⟩ : ∃ x, F.L[i]? = some x := ⟨_, List.getElem?_eq_getElem (by omega)⟩
      exact Or.inl ⟨x, hx, Or.inr ⟨e, by omega, h2⟩⟩
    · exact Or.inr ⟨i - F.L.length, by omega, by omega, Or.inr ⟨Nat.le_trans (Nat.mul_le_mul_right 256 (by rw [p1]; omega)) h1, h2⟩⟩
  unfold cntF
  rw [List.length_eq_zero_iff, List.filter_eq_nil_iff]
  intro r hr
  have hr := List.mem_range.1 hr
  have main : (lostL T r).length ≤ (((List.range (F.L.length + (64 - F.K))).filter (fun i => !tk i)) ++ ((List.range F.K).map (fun j => F.L.length + (64 - F.K) + j) ++ [F.L.length + 64])).length := by
    refine len_le (fun c y => (191 ≤ c ∧ y = F.L.length + (c - 191)) ∨ (c < 191 ∧ ∃ x, F.L[y]? = some x ∧ x.1 ≤ c * 256 + r ∧ c * 256 + r < x.1 + x.2.size) ∨ (c < 191 ∧ y = F.L.length + 64 ∧ F.used ≤ c * 256 + r ∧ c * 256 + r < (F.used + 256 - 1) / 256 * 256)) _ _ (List.nodup_range.filter _) (fun c hc => ?_) (fun c hc c' hc' y h1 h2 => ?_)
    · obtain ⟨hc1, hc2⟩ := List.mem_filter.1 hc
      have hc1 := List.mem_range.1 hc1
      rw [hR] at hc2
      have hc2 : T.is (c * 256 + r) = false := by simpa using hc2
      have hno : ∀ i, i < F.L.length + (64 - F.K) → cvA F i (c * 256 + r) → tk i = false := fun i hi ha => by
        cases e : tk i with
        | false => rfl
        | true =>
          rw [(h.1.is _).2 ⟨i, hi, e, ha⟩] at hc2
          cases hc2
      by_cases e : 191 ≤ c
      · refine ⟨F.L.length + (c - 191), ?_, Or.inl ⟨e, rfl⟩⟩
        by_cases e2 : c - 191 < 64 - F.K
        · refine List.mem_append_left _ (List.mem_filter.2 ⟨List.mem_range.2 (by omega), ?_⟩)
          rw [hno _ (by omega) (Or.inr ⟨c - 191, rfl, e2, Or.inl ⟨by omega, by omega⟩⟩)]
          rfl
        · refine List.mem_append_right _ (List.mem_append_left _ (List.mem_map.2 ⟨c - 191 - (64 - F.K), List.mem_range.2 (by omega), by omega⟩))
      · by_cases e2 : c * 256 + r < F.used
        · obtain ⟨i, x, hx, h1, h2⟩ := chain_cover hF.ok.ch (Nat.zero_le _) e2
          have hi := (List.getElem?_eq_some_iff.1 hx).1
          refine ⟨i, List.mem_append_left _ (List.mem_filter.2 ⟨List.mem_range.2 (by omega), ?_⟩), Or.inr (Or.inl ⟨by omega, x, hx, h1, h2⟩)⟩
          rw [hno i (by omega) (Or.inl ⟨x, hx, Or.inl ⟨h1, h2⟩⟩)]
          rfl
        · by_cases e3 : (F.used + 256 - 1) / 256 * 256 ≤ c * 256 + r
          · rw [hknown _ e3 (by omega)] at hc2
            cases hc2
          · exact ⟨F.L.length + 64, List.mem_append_right _ (List.mem_append_right _ (by simp)), Or.inr (Or.inr ⟨by omega, rfl, by omega, by omega⟩)⟩
    · have hc1 := List.mem_range.1 (List.mem_filter.1 hc).1
      have hc1' := List.mem_range.1 (List.mem_filter.1 hc').1
      rcases h1 with ⟨a1, a2⟩ | ⟨a1, x, a2, a3, a4⟩ | ⟨a1, a2, a3, a4⟩
      · rcases h2 with ⟨b1, b2⟩ | ⟨b1, x, b2, b3, b4⟩ | ⟨b1, b2, b3, b4⟩
        · omega
        · have := (List.getElem?_eq_some_iff.1 b2).1; omega
        · omega
      · have hy := (List.getElem?_eq_some_iff.1 a2).1
        have hs := hsh x (List.mem_of_getElem? a2)
        rcases h2 with ⟨b1, b2⟩ | ⟨b1, x', b2, b3, b4⟩ | ⟨b1, b2, b3, b4⟩
        · omega
        · rw [a2] at b2; injection b2 with b2; subst b2
          omega
        · omega
      · rcases h2 with ⟨b1, b2⟩ | ⟨b1, x, b2, b3, b4⟩ | ⟨b1, b2, b3, b4⟩
        · omega
        · have := (List.getElem?_eq_some_iff.1 b2).1; omega
        · omega
  simp only [List.length_append, List.length_map, List.length_range, List.length_cons, List.length_nil] at main
  unfold badR
  rw [decide_eq_false (by omega)]
  decide
/-- going along a list, those of a part of it are found -/
structure Gr (L M : List (Nat × ByteArray)) (i n : Nat) : Prop where
  a : (M.take n).Sublist (L.take i)
  b : (M.drop n).Sublist (L.drop i)
  n : n ≤ M.length
theorem gr_start {L M : List (Nat × ByteArray)} (h : M.Sublist L) : Gr L M 0 0 := ⟨by simp, by simpa using h, Nat.zero_le _⟩
theorem take_snoc {α : Type} {l : List α} {i : Nat} {x : α} (h : l[i]? = some x) : l.take (i + 1) = l.take i ++ [x] := by
  rw [List.take_add_one, h]; rfl
theorem drop_at {α : Type} {l : List α} {i : Nat} {x : α} (h : l[i]? = some x) : l.drop i = x :: l.drop (i + 1) := by
  obtain ⟨hi, e⟩ := List.getElem?_eq_some_iff.1 h
  rw [List.drop_eq_getElem_cons hi, e]
theorem gr_yes {L M : List (Nat × ByteArray)} {u i n : Nat} {y z : Nat × ByteArray} (hc : Chain 0 L u) (h : Gr L M i n) (hz : L[i]? = some z) (hy : M[n]? = some y) (he : y.1 = z.1) : y = z ∧ Gr L M (i + 1) (n + 1) := by
  have hb := h.b
  rw [drop_at hy, drop_at hz] at hb
  have hmem : y ∈ z :: L.drop (i + 1) := hb.subset (by simp)
  have hyz : y = z := by
    rcases List.mem_cons.1 hmem with e | hm
    · exact e
    · obtain ⟨j, hj⟩ := List.mem_iff_getElem?.1 hm
      rw [List.getElem?_drop] at hj
      have h1 := chain_lt hc hz hj (by omega)
      have h2 := dg_size (chain_in hc z (List.mem_of_getElem? hz)).2.2
      omega
  refine ⟨hyz, ?_, ?_, (List.getElem?_eq_some_iff.1 hy).1⟩
  · rw [take_snoc hy, take_snoc hz, hyz]
    exact h.a.append (List.Sublist.refl _)
  · subst hyz
    exact List.cons_sublist_cons.1 hb
theorem gr_no {L M : List (Nat × ByteArray)} {u i n : Nat} {z : Nat × ByteArray} (hc : Chain 0 L u) (h : Gr L M i n) (hz : L[i]? = some z) (he : ∀ y, M[n]? = some y → y.1 ≠ z.1) : z ∉ M ∧ Gr L M (i + 1) n := by
  have hb : (M.drop n).Sublist (L.drop (i + 1)) := by
    have hb := h.b
    rw [drop_at hz] at hb
    cases hd : M.drop n with
    | nil => exact List.nil_sublist _
    | cons y t =>
      rw [hd] at hb
      have hy : M[n]? = some y := by
        have : (M.drop n)[0]? = some y := by rw [hd]; rfl
        rw [List.getElem?_drop] at this
        exact this
      cases hb with
      | cons _ hb => exact hb
      | cons_cons _ hb => exact absurd rfl (he _ hy)
  refine ⟨fun hm => ?_, ?_, hb, h.n⟩
  · rw [← List.take_append_drop n M, List.mem_append] at hm
    have h20 := dg_size (chain_in hc z (List.mem_of_getElem? hz)).2.2
    rcases hm with hm | hm
    · obtain ⟨j, hj⟩ := List.mem_iff_getElem?.1 (h.a.subset hm)
      have hj1 := (List.getElem?_eq_some_iff.1 hj).1
      rw [List.length_take] at hj1
      rw [List.getElem?_take_of_lt (by omega)] at hj
      have := chain_lt hc hj hz (by omega)
      omega
    · obtain ⟨j, hj⟩ := List.mem_iff_getElem?.1 (hb.subset hm)
      rw [List.getElem?_drop] at hj
      have := chain_lt hc hz hj (by omega)
      omega
  · exact h.a.trans (List.take_sublist_take_left (by omega))
theorem gr_end {L M : List (Nat × ByteArray)} {n : Nat} (h : Gr L M L.length n) : n = M.length := by
  have hb := h.b
  rw [List.drop_length] at hb
  have := List.drop_eq_nil_iff.1 (List.sublist_nil.1 hb)
  have := h.n
  omega
end Go.Proofs.YthgcmlhmhojjhaaGreatDoor.BoQ
