/- ReadInt: the plain words; up to the label. -/
import Derived.Test.YtbceakdifklocaaDuC
namespace Go.Proofs.Ytbceakdifklocaa.DuD
open Go Go.RowKit Go.Proofs.Ytbceakdifklocaa.Q Go.Proofs.Ytbceakdifklocaa.Mem Go.Proofs.Ytbceakdifklocaa.DsA Go.Proofs.Ytbceakdifklocaa.DsB Go.Proofs.Ytbceakdifklocaa.DsC Go.Proofs.Ytbceakdifklocaa.DsD Go.Proofs.Ytbceakdifklocaa.DsE Go.Proofs.Ytbceakdifklocaa.DsI Go.Proofs.Ytbceakdifklocaa.DsK Go.Proofs.Ytbceakdifklocaa.DsP Go.Proofs.Ytbceakdifklocaa.DsQ Go.Proofs.Ytbceakdifklocaa.DsR Go.Proofs.Ytbceakdifklocaa.DsS Go.Proofs.Ytbceakdifklocaa.DsU Go.Proofs.Ytbceakdifklocaa.DsW Go.Proofs.Ytbceakdifklocaa.DsX Go.Proofs.Ytbceakdifklocaa.DsY Go.Proofs.Ytbceakdifklocaa.DtF Go.Proofs.Ytbceakdifklocaa.DuA Go.Proofs.Ytbceakdifklocaa.DuB Go.Proofs.Ytbceakdifklocaa.DuC Go.Proofs.Ytbceakdifklocaa.Rg Go.Proofs.Ytbceakdifklocaa.Ap

theorem or16 (a b : Int) (ha : 0 ≤ a ∧ a ≤ 255) (hb : 0 ≤ b ∧ b ≤ 65535) : bits .or .i64 (a * 65536) b = a * 65536 + b := by
  obtain ⟨m, rfl⟩ : ∃ m : Nat, a = m := ⟨a.toNat, by omega⟩
  obtain ⟨n, rfl⟩ : ∃ n : Nat, b = n := ⟨b.toNat, by omega⟩
  have hn : n < 65536 := by omega
  have := (bits_nat .i64 24 (by decide) (fun n h1 h2 => by rw [IntKind.wrap_i64]; omega) (m * 65536) n (by omega) (by omega)).2
  rw [show ((m * 65536 : Nat) : Int) = (m : Int) * 65536 by omega] at this
  rw [this]
  have e := Nat.two_pow_add_eq_or_of_lt (i := 16) hn m
  rw [show m * 65536 = 2 ^ 16 * m by omega, ← e]
  omega
def platOf (s : ByteArray) : Int := at' s 0 * 65536 + pw s 1
/-- the loops that are read one by one -/
def rdI : Nat → List (List Dc) → ByteArray → Int × List (List Dc)
  | 0, A, _ => (10, A)
  | f + 1, A, t => if tkE t ≠ 0 then (tkE t, A) else if (tkR t).size ≠ 0 ∨ (A.length + 1) % 2 = 0 then rdI f (A ++ [tkL t]) (tkR t) else (0, A ++ [tkL t])
def riR (body : ByteArray) : Int × List (List Dc) := rdI (body.size + 1) [] (body.extract 4 body.size)
def riOK (ext : Int) (body : ByteArray) : Prop := bodyE (ext / 256) (platOf body) (at' body 3) (riR body).2 = 0 ∧ bodyS (ext / 256) (platOf body) (at' body 3) (riR body).2 = body ∧ extN (ext / 256) (platOf body) (at' body 3) = ext
instance (ext : Int) (body : ByteArray) : Decidable (riOK ext body) := by unfold riOK; infer_instance
def riE (ext : Int) (body : ByteArray) : Int := if in1 65535 ext = false then 15 else if body.size < 4 then 10 else if (riR body).1 ≠ 0 then (riR body).1 else if riOK ext body then 0 else 12
theorem tk_shorter {t : ByteArray} (h : tkE t = 0) : (tkR t).size + 2 ≤ t.size := by
  unfold tkE at h
  unfold tkR
  split at h
  · omega
  · rename_i hb
    rw [if_neg hb, ByteArray.size_extract]
    unfold tkBad at hb
    omega
/-- entries out of loops -/
def ents (VS : List Value) (j : Nat) : List (Value × Value) := (List.range j).map fun i => (VS[2 * i + 1]?.getD undef, VS[2 * i + 2]?.getD undef)
theorem ents_len (VS : List Value) (j : Nat) : (ents VS j).length = j := by simp [ents]
theorem ents_snoc (VS : List Value) (j : Nat) : ents VS (j + 1) = ents VS j ++ [(VS[2 * j + 1]?.getD undef, VS[2 * j + 2]?.getD undef)] := by simp [ents, List.range_succ]
theorem lvs_ents {VS : List Value} {iv : Value} (h0 : VS[0]? = some iv) : ∀ j, 2 * j + 1 ≤ VS.length → lvs iv (ents VS j) = VS.take (2 * j + 1)
  | 0, h => by
    match VS, h0 with
    | x :: t, h0 => simp at h0; subst h0; simp [lvs, ents]
  | j + 1, h => by
    have ih := lvs_ents h0 j (by omega)
    have e : lvs iv (ents VS (j + 1)) = lvs iv (ents VS j) ++ [VS[2 * j + 1]?.getD undef, VS[2 * j + 2]?.getD undef] := by
      rw [ents_snoc]; simp [lvs, en2]
    have h1 : VS.take (2 * j + 1 + 1) = VS.take (2 * j + 1) ++ [VS[2 * j + 1]] := List.take_succ_eq_append_getElem (by omega)
    have h2 : VS.take (2 * j + 1 + 1 + 1) = VS.take (2 * j + 1 + 1) ++ [VS[2 * j + 2]] := List.take_succ_eq_append_getElem (by omega)
    rw [e, ih, show 2 * (j + 1) + 1 = 2 * j + 1 + 1 + 1 by omega, h2, h1, List.getElem?_eq_getElem (show 2 * j + 1 < VS.length by omega), List.getElem?_eq_getElem (show 2 * j + 2 < VS.length by omega)]
    simp only [List.append_assoc, List.singleton_append, Option.getD_some]
/-- where the loops that are read lie: apart from what came before, and from their own row -/
def Away (B S : Nat) (r : Option Nat) (VS : List Value) : Prop := ∀ (i : Nat) (a : Option Addr) (n c : Nat), VS[i]? = some (.slice a n c) → 0 < n → ∀ (b o : Nat), a = some ⟨b, o, none⟩ → B ≤ b ∧ b < S ∧ r ≠ some b
theorem ds_grown {w w' : World} {a : Option Addr} {L : List Dc} {r : Option Nat} (h : Ds w a L) (hg : w.grownBy w' r) (hne : ∀ (b o : Nat), a = some ⟨b, o, none⟩ → r ≠ some b) : Ds w' a L := fun i d hi => by
  obtain ⟨b, o, e, hlt, c0, c1⟩ := h i d hi
  exact ⟨b, o, e, Nat.lt_of_lt_of_le hlt hg.size, (hg.cell_far _ hlt (fun h => hne b o e h.symm)).trans c0, (hg.cell_far _ hlt (fun h => hne b o e h.symm)).trans c1⟩
theorem lps_grown {w w' : World} {VS : List Value} {A : List (List Dc)} {r : Option Nat} {B S : Nat} (h : Lps w VS A) (hg : w.grownBy w' r) (ha : Away B S r VS) : Lps w' VS A := ⟨h.1, fun i v L h1 h2 => by
  obtain ⟨a, n, c, rfl, hl, hd⟩ := h.2 i v L h1 h2
  cases L with
  | nil => exact ⟨a, n, c, rfl, hl, fun i x hi => by simp at hi⟩
  | cons d M => exact ⟨a, n, c, rfl, hl, ds_grown hd hg (fun b o e => (ha i a n c h1 (by simp at hl; omega) b o e).2.2)⟩⟩
theorem lps_snoc {w : World} {VS : List Value} {A : List (List Dc)} {v : Value} {L : List Dc} (h : Lps w VS A) (hv : IsD w v L) : Lps w (VS ++ [v]) (A ++ [L]) := ⟨by simp [h.1], fun i x M h1 h2 => by
  rcases Nat.lt_or_ge i VS.length with hi | hi
  · rw [List.getElem?_append_left hi] at h1
    rw [List.getElem?_append_left (by rw [← h.1]; exact hi)] at h2
    exact h.2 i x M h1 h2
  · rw [List.getElem?_append_right hi] at h1
    rw [List.getElem?_append_right (by rw [← h.1]; exact hi)] at h2
    rw [h.1] at h1
    have e : i - A.length = 0 := by
      have := (List.getElem?_eq_some_iff.1 h1).1
      simp at this; omega
    rw [e] at h1 h2
    simp at h1 h2
    subst h1 h2
    exact hv⟩
set_option maxRecDepth 100000
def zeroI : Array Value := #[.int .i64 0, .int .i64 0, .int .i64 0, .slice none 0 0, .slice none 0 0]
/-- what ReadInt hands back -/
def Got (ext : Int) (body : ByteArray) (w w' : World) (e : Ending) : Prop := (∃ v, e = .returned (.tuple #[.agg v, .int .i64 (riE ext body)]) ∧ (riE ext body ≠ 0 → v = zeroI) ∧
  (riE ext body = 0 → ∃ iv ea n ec PS, v = #[.int .i64 (ext / 256), .int .i64 (platOf body), .int .i64 (at' body 3), iv, .slice ea n ec] ∧ PS.length = n ∧ Lps w' (lvs iv PS) (riR body).2 ∧ Seq en2 2 w' ea PS)) ∧ Below w.heap.size w w'
end Go.Proofs.Ytbceakdifklocaa.DuD
