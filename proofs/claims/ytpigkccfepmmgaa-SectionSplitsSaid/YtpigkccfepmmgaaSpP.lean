/- Split and Join, plain. -/
import Derived.Test.YtpigkccfepmmgaaSpB
namespace Go.Proofs.Ytpigkccfepmmgaa.SpP
open Go Go.RowKit Go.Proofs.Ytpigkccfepmmgaa.St Go.Proofs.Ytpigkccfepmmgaa.SeA Go.Proofs.Ytpigkccfepmmgaa.SeE Go.Proofs.Ytpigkccfepmmgaa.SpA Go.Proofs.Ytpigkccfepmmgaa.SpB

theorem bodies_split (t e v : Int) (b : ByteArray) : ∀ k, bodies ((List.range k).map (secS t e v b)) = (bl b).take (4084 * k)
  | 0 => by simp [bodies]
  | k + 1 => by
    have ih := bodies_split t e v b k
    unfold bodies at ih ⊢
    rw [List.range_succ, List.map_append, List.flatMap_append, ih, List.map_singleton]
    rw [show 4084 * (k + 1) = 4084 * k + 4084 by omega, List.take_add]
    congr 1
    show bl (SpA.part b k) ++ [] = _
    rw [List.append_nil]
    unfold SpA.part
    rw [ext_bl]
    refine List.take_eq_take_iff.2 ?_
    rw [List.length_drop, bl_len]
    omega
/-- the sections of a split text: all are sections, all are of one kind -/
def Good (t e v : Int) (b : ByteArray) : Prop := splRng t e v ∧ many b.size ≤ 256
theorem spl_E {t e v : Int} {b : ByteArray} (h : Good t e v b) : splE t e v b = 0 := by unfold splE; rw [if_neg (by have := h.2; omega), if_pos h.1]
theorem spl_L {t e v : Int} {b : ByteArray} (h : Good t e v b) : splL t e v b = (List.range (many b.size)).map (secS t e v b) := by unfold splL; rw [if_pos (spl_E h)]
theorem first_zero {L : List Sc} (h : ∀ s ∈ L, s.chk = 0) : firstE L = 0 := by
  induction L with
  | nil => rfl
  | cons x t ih => rw [firstE, if_pos (h x (List.mem_cons_self ..)), ih fun s hs => h s (List.mem_cons_of_mem _ hs)]
theorem jo_kin {L : List Sc} {K : Sc} (h0 : L ≠ []) (hc : ∀ s ∈ L, s.chk = 0) (hk : ∀ s ∈ L, kinS s = K) : joE L = if ordA L.length 0 L then 0 else 22 := by
  cases L with
  | nil => exact absurd rfl h0
  | cons a t =>
    unfold joE
    dsimp only
    rw [if_neg (by rw [first_zero hc]; simp), if_neg (fun h => h fun s hs => (hk s hs).trans (hk a (List.mem_cons_self ..)).symm)]
    by_cases ho : ordA (a :: t).length 0 (a :: t)
    · rw [if_neg (fun h => h ho), if_pos ho]
    · rw [if_pos ho, if_neg ho]
theorem jo_mix {L : List Sc} {a b : Sc} (hc : ∀ s ∈ L, s.chk = 0) (ha : a ∈ L) (hb : b ∈ L) (hk : kinS a ≠ kinS b) : joE L = 14 := by
  cases L with
  | nil => cases ha
  | cons x t =>
    unfold joE
    dsimp only
    rw [if_neg (by rw [first_zero hc]; simp), if_pos (fun h => hk ((h a ha).trans (h b hb).symm))]
theorem spl_mem {t e v : Int} {b : ByteArray} (h : Good t e v b) {s : Sc} (hs : s ∈ splL t e v b) : ∃ i, i < many b.size ∧ s = secS t e v b i := by
  rw [spl_L h] at hs
  obtain ⟨i, hi, rfl⟩ := List.mem_map.1 hs
  exact ⟨i, List.mem_range.1 hi, rfl⟩
theorem spl_chk {t e v : Int} {b : ByteArray} (h : Good t e v b) : ∀ s ∈ splL t e v b, s.chk = 0 := fun s hs => by
  obtain ⟨i, hi, rfl⟩ := spl_mem h hs
  rw [sec_chk hi h.2, if_pos h.1]
theorem spl_kin {t e v : Int} {b : ByteArray} (h : Good t e v b) : ∀ s ∈ splL t e v b, kinS s = ⟨t, false, e, v, true, 0, (many b.size : Int) - 1, nob⟩ := fun s hs => by
  obtain ⟨i, _, rfl⟩ := spl_mem h hs
  rfl
theorem spl_len {t e v : Int} {b : ByteArray} (h : Good t e v b) : (splL t e v b).length = many b.size := by rw [spl_L h]; simp
theorem spl_get {t e v : Int} {b : ByteArray} (h : Good t e v b) {i : Nat} (hi : i < many b.size) : (splL t e v b)[i]? = some (secS t e v b i) := by
  rw [spl_L h, List.getElem?_map, List.getElem?_range hi]; rfl
theorem spl_ne {t e v : Int} {b : ByteArray} (h : Good t e v b) : splL t e v b ≠ [] := fun e' => by
  have := spl_len h
  have h1 := many_pos b.size
  rw [e'] at this
  simp at this
  omega
theorem jo_spl {t e v : Int} {b : ByteArray} (h : Good t e v b) : joE (splL t e v b) = 0 ∧ joS (splL t e v b) = b := by
  have h1 : joE (splL t e v b) = 0 := by
    rw [jo_kin (spl_ne h) (spl_chk h) (spl_kin h), if_pos]
    rw [spl_len h]
    refine ord_get.2 fun k s hs => ?_
    have hk : k < many b.size := by
      rw [← spl_len h]
      exact (List.getElem?_eq_some_iff.1 hs).1
    rw [spl_get h hk] at hs
    injection hs with hs
    subst hs
    exact ⟨by rw [Nat.zero_add]; rfl, rfl⟩
  refine ⟨h1, ?_⟩
  unfold joS
  rw [if_pos h1, spl_L h, bodies_split, List.take_of_length_le (by rw [bl_len]; exact many_le _)]
  exact str_bl b
theorem good987 {b : ByteArray} (h : b.size ≤ 9000) : Good 9 8 7 b := ⟨by decide, by unfold many; omega⟩
/-- two exchanged -/
theorem jo_swap {t e v : Int} {b : ByteArray} (h : Good t e v b) {i k : Nat} (hi : i < many b.size) (hk : k < many b.size) (hik : i ≠ k) :
    joE (((splL t e v b).set i (secS t e v b k)).set k (secS t e v b i)) = 22 := by
  have hm : ∀ s ∈ ((splL t e v b).set i (secS t e v b k)).set k (secS t e v b i), s ∈ splL t e v b := fun s hs => by
    rcases List.mem_or_eq_of_mem_set hs with hs | rfl
    · rcases List.mem_or_eq_of_mem_set hs with hs | rfl
      · exact hs
      · exact List.mem_of_getElem? (spl_get h hk)
    · exact List.mem_of_getElem? (spl_get h hi)
  rw [jo_kin (fun e' => spl_ne h (by simpa using e')) (fun s hs => spl_chk h s (hm s hs)) (fun s hs => spl_kin h s (hm s hs)), if_neg]
  intro ho
  have := (ord_get.1 ho k (secS t e v b i) (by rw [List.getElem?_set_self (by rw [List.length_set, spl_len h]; exact hk)])).1
  rw [Nat.zero_add] at this
  have h2 : ((i : Nat) : Int) = ((k : Nat) : Int) := this
  omega
theorem jo_less {t e v : Int} {b : ByteArray} (h : Good t e v b) {i : Nat} (hi : i < many b.size) (h2 : 2 ≤ many b.size) :
    joE ((splL t e v b).take i ++ (splL t e v b).drop (i + 1)) = 22 := by
  have hm : ∀ s ∈ (splL t e v b).take i ++ (splL t e v b).drop (i + 1), s ∈ splL t e v b := fun s hs => by
    rcases List.mem_append.1 hs with hs | hs
    · exact List.mem_of_mem_take hs
    · exact List.mem_of_mem_drop hs
  have hl : ((splL t e v b).take i ++ (splL t e v b).drop (i + 1)).length = many b.size - 1 := by rw [List.length_append, List.length_take, List.length_drop, spl_len h]; omega
  have hne : (splL t e v b).take i ++ (splL t e v b).drop (i + 1) ≠ [] := fun e' => by rw [e'] at hl; simp at hl; omega
  rw [jo_kin hne (fun s hs => spl_chk h s (hm s hs)) (fun s hs => spl_kin h s (hm s hs)), if_neg]
  intro ho
  obtain ⟨s, hs⟩ := List.getElem?_eq_some_iff.2 ⟨by rw [hl]; omega, rfl⟩ |> fun (x : ((splL t e v b).take i ++ (splL t e v b).drop (i + 1))[0]? = some _) => (⟨_, x⟩ : ∃ s, ((splL t e v b).take i ++ (splL t e v b).drop (i + 1))[0]? = some s)
  have hl2 := (ord_get.1 ho 0 s hs).2
  obtain ⟨j, hj, rfl⟩ := spl_mem h (hm s (List.mem_of_getElem? hs))
  rw [hl] at hl2
  have : ((many b.size : Nat) : Int) - 1 = ((many b.size - 1 : Nat) : Int) - 1 := hl2
  omega
def ext9 (s : Sc) : Sc := { s with ext := 9 }
theorem jo_other {b : ByteArray} (hb : b.size ≤ 9000) {i : Nat} (hi : i < many b.size) (h2 : 2 ≤ many b.size) :
    joE ((splL 9 8 7 b).set i (ext9 (secS 9 8 7 b i))) = 14 := by
  have h := good987 hb
  have hj : ∃ j, j < many b.size ∧ j ≠ i := by
    by_cases h0 : i = 0
    · exact ⟨1, by omega, by omega⟩
    · exact ⟨0, by omega, by omega⟩
  obtain ⟨j, hj, hne⟩ := hj
  refine jo_mix (a := ext9 (secS 9 8 7 b i)) (b := secS 9 8 7 b j) (fun s hs => ?_) ?_ ?_ ?_
  · rcases List.mem_or_eq_of_mem_set hs with hs | rfl
    · exact spl_chk h s hs
    · have hp := part_size b i
      refine chk_ok ?_ ?_
      · unfold Sc.ok ext9 secS; dsimp only; have := h.2; omega
      · show ¬ 4084 < (SpA.part b i).size; omega
  · exact List.mem_of_getElem? (List.getElem?_set_self (by rw [spl_len h]; exact hi))
  · exact List.mem_of_getElem? (i := j) (by rw [List.getElem?_set_ne (Ne.symm hne), spl_get h hj])
  · intro e'
    have := congrArg Sc.ext e'
    exact absurd this (by show ¬ ((9 : Int) = 8); decide)
end Go.Proofs.Ytpigkccfepmmgaa.SpP
