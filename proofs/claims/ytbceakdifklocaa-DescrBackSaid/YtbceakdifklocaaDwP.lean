/- ReadInt of Body, plain. -/
import Derived.Test.YtbceakdifklocaaDvO
namespace Go.Proofs.Ytbceakdifklocaa.DwP
open Go Go.RowKit Go.Proofs.Ytbceakdifklocaa.Q Go.Proofs.Ytbceakdifklocaa.Mem Go.Proofs.Ytbceakdifklocaa.DsA Go.Proofs.Ytbceakdifklocaa.DsB Go.Proofs.Ytbceakdifklocaa.DsC Go.Proofs.Ytbceakdifklocaa.DsD Go.Proofs.Ytbceakdifklocaa.DsE Go.Proofs.Ytbceakdifklocaa.DsApart Go.Proofs.Ytbceakdifklocaa.DsI Go.Proofs.Ytbceakdifklocaa.DsP Go.Proofs.Ytbceakdifklocaa.DsQ Go.Proofs.Ytbceakdifklocaa.DsR Go.Proofs.Ytbceakdifklocaa.DsU Go.Proofs.Ytbceakdifklocaa.DsX Go.Proofs.Ytbceakdifklocaa.DsY Go.Proofs.Ytbceakdifklocaa.DuA Go.Proofs.Ytbceakdifklocaa.DuB Go.Proofs.Ytbceakdifklocaa.DuC Go.Proofs.Ytbceakdifklocaa.DuD
theorem ext_str' (l : List UInt8) (a b : Nat) : (str l).extract a b = str ((l.drop a).take (b - a)) := by
  have h : ((str l).extract a b).data.toList = (l.drop a).take (b - a) := by
    simp [str, ByteArray.data_extract, List.extract_eq_take_drop]
  rw [← str_of ((str l).extract a b), h]
theorem tk_one (L : List Dc) (r : List UInt8) (h : loopE L = 0) : tkE (str (encLp L ++ r)) = 0 ∧ tkL (str (encLp L ++ r)) = L ∧ tkR (str (encLp L ++ r)) = str r := by
  obtain ⟨_, hl⟩ := loop_ok h
  obtain ⟨hp1, hp2⟩ := prs_joined h
  obtain ⟨n, hn⟩ : ∃ n, (loopL L).length = n := ⟨_, rfl⟩
  have e : encLp L ++ r = UInt8.ofNat (240 + n / 256) :: UInt8.ofNat (n % 256) :: (loopL L ++ r) := by unfold encLp; rw [hn]; simp
  have h0 : at' (str (encLp L ++ r)) 0 = ((240 + n / 256 : Nat) : Int) := by
    rw [e]; simp only [at', str]
    show (((UInt8.ofNat (240 + n / 256)).toNat : Nat) : Int) = _
    rw [UInt8.toNat_ofNat']; congr 1; omega
  have h1 : at' (str (encLp L ++ r)) 1 = ((n % 256 : Nat) : Int) := by
    rw [e]; simp only [at', str]
    show (((UInt8.ofNat (n % 256)).toNat : Nat) : Int) = _
    rw [UInt8.toNat_ofNat']; congr 1; omega
  have hpn : pn (str (encLp L ++ r)) = n := by
    unfold pn pw
    rw [h0, h1]
    omega
  have hsz : (str (encLp L ++ r)).size = 2 + n + r.length := by rw [str_size, e]; simp [hn]; omega
  have hb : ¬ tkBad (str (encLp L ++ r)) := by unfold tkBad; rw [hpn, hsz]; omega
  have hx : (str (encLp L ++ r)).extract 2 (2 + n) = str (loopL L) := by
    rw [ext_str', e]
    congr 1
    show List.take (2 + n - 2) (loopL L ++ r) = _
    rw [show 2 + n - 2 = (loopL L).length by omega, List.take_left]
  have hy : (str (encLp L ++ r)).extract (2 + n) (str (encLp L ++ r)).size = str r := by
    rw [hsz, ext_str', e]
    congr 1
    rw [show 2 + n = n + 1 + 1 by omega, List.drop_succ_cons, List.drop_succ_cons, ← hn, List.drop_left]
    exact List.take_of_length_le (by omega)
  unfold tkE tkL tkR
  rw [if_neg hb, if_neg hb, if_neg hb, hpn, hx, hy]
  exact ⟨hp1, hp2, rfl⟩
theorem rdI_all : ∀ (LL : List (List Dc)) (A : List (List Dc)) (f : Nat), LL ≠ [] → (∀ L ∈ LL, loopE L = 0) → (A.length + LL.length) % 2 = 1 → LL.length ≤ f → rdI f A (str (bdL LL)) = (0, A ++ LL)
  | [], _, _, h, _, _, _ => absurd rfl h
  | _ :: _, _, 0, _, _, _, hf => by simp at hf
  | L :: M, A, f + 1, _, hE, ho, hf => by
    have eb : bdL (L :: M) = encLp L ++ bdL M := by simp [bdL]
    obtain ⟨h1, h2, h3⟩ := tk_one L (bdL M) (hE L (List.mem_cons_self ..))
    rw [eb, rdI, if_neg (by rw [h1]; simp), h2, h3]
    cases M with
    | nil =>
      rw [if_neg (by simp [bdL, str_size] at ho ⊢; omega)]
    | cons K M =>
      rw [if_pos (Or.inl (by rw [str_size]; simp [bdL, encLp])), rdI_all (K :: M) (A ++ [L]) f (by simp) (fun X hX => hE X (List.mem_cons_of_mem _ hX)) (by simp at ho ⊢; omega) (by simp at hf ⊢; omega)]
      simp
theorem lp_all : ∀ {LL : List (List Dc)}, lpE LL = 0 → ∀ L ∈ LL, loopE L = 0
  | [], _, L, h => by cases h
  | K :: M, h, L, hL => by
    rw [lpE] at h
    split at h
    · rename_i hk
      rcases List.mem_cons.1 hL with rfl | hL
      · exact hk
      · exact lp_all h L hL
    · rename_i hk; exact absurd h hk
theorem bd_len (LL : List (List Dc)) : 2 * LL.length ≤ (bdL LL).length := by
  induction LL with
  | nil => simp
  | cons L M ih =>
    have e : bdL (L :: M) = encLp L ++ bdL M := by simp [bdL]
    have h2 : 2 ≤ (encLp L).length := by simp [encLp]
    rw [e, List.length_append, List.length_cons]
    omega
/-- what an Int's body reads as -/
theorem ri_body {a p o : Int} {LL : List (List Dc)} (h : bodyE a p o LL = 0) (hodd : LL.length % 2 = 1) :
    riE (extN a p o) (bodyS a p o LL) = 0 ∧ (riR (bodyS a p o LL)).2 = LL ∧ platOf (bodyS a p o LL) = p ∧ at' (bodyS a p o LL) 3 = o ∧ extN a p o / 256 = a := by
  have hS : bodyS a p o LL = str (hdL p o ++ bdL LL) := by unfold bodyS; rw [if_pos h]
  have hh := h
  unfold bodyE at hh
  split at hh
  case isFalse => omega
  rename_i hm
  obtain ⟨⟨a1, a2⟩, ⟨p1, p2⟩, ⟨o1, o2⟩⟩ := may_true hm
  have hE : extN a p o = a * 256 + low8 p := by unfold extN; rw [if_pos hm]
  have hlow := and_255 (bits .xor .i64 (bits .xor .i64 (p / 65536) (p / 256)) p)
  have hlow2 : 0 ≤ low8 p ∧ low8 p ≤ 255 := hlow
  have hx : extN a p o / 256 = a := by rw [hE]; omega
  have b0 : at' (str (hdL p o ++ bdL LL)) 0 = p / 65536 := by
    simp only [at', str, hdL]
    show (((UInt8.ofNat (p / 65536).toNat).toNat : Nat) : Int) = _
    rw [UInt8.toNat_ofNat']; omega
  have b1 : at' (str (hdL p o ++ bdL LL)) 1 = p / 256 % 256 := by
    simp only [at', str, hdL]
    show (((UInt8.ofNat (p / 256 % 256).toNat).toNat : Nat) : Int) = _
    rw [UInt8.toNat_ofNat']; omega
  have b2 : at' (str (hdL p o ++ bdL LL)) 2 = p % 256 := by
    simp only [at', str, hdL]
    show (((UInt8.ofNat (p % 256).toNat).toNat : Nat) : Int) = _
    rw [UInt8.toNat_ofNat']; omega
  have b3 : at' (str (hdL p o ++ bdL LL)) 3 = o := by
    simp only [at', str, hdL]
    show (((UInt8.ofNat o.toNat).toNat : Nat) : Int) = _
    rw [UInt8.toNat_ofNat']; omega
  have hpl : platOf (str (hdL p o ++ bdL LL)) = p := by
    unfold platOf pw
    rw [b0, b1, b2]
    omega
  have hsz : (str (hdL p o ++ bdL LL)).size = 4 + (bdL LL).length := by rw [str_size, List.length_append]; rfl
  have hext : (str (hdL p o ++ bdL LL)).extract 4 (str (hdL p o ++ bdL LL)).size = str (bdL LL) := by
    rw [hsz, ext_str']
    congr 1
    show List.take (4 + (bdL LL).length - 4) (bdL LL) = _
    exact List.take_of_length_le (by omega)
  have hrd : riR (str (hdL p o ++ bdL LL)) = (0, LL) := by
    unfold riR
    rw [hext, hsz, rdI_all LL [] _ (fun e => by rw [e] at hodd; simp at hodd) (lp_all hh) (by simpa using hodd) (by have := bd_len LL; omega)]
    rfl
  refine ⟨?_, by rw [hS, hrd], by rw [hS]; exact hpl, by rw [hS]; exact b3, hx⟩
  have hin : in1 65535 (extN a p o) = true := by simp [in1]; omega
  have hok : riOK (extN a p o) (bodyS a p o LL) := by
    unfold riOK
    rw [hx]
    rw [show platOf (bodyS a p o LL) = p by rw [hS]; exact hpl, show at' (bodyS a p o LL) 3 = o by rw [hS]; exact b3, show (riR (bodyS a p o LL)).2 = LL by rw [hS, hrd]]
    exact ⟨h, rfl, rfl⟩
  unfold riE
  rw [if_neg (by rw [hin]; simp), if_neg (by rw [hS, hsz]; omega), if_neg (by rw [hS, hrd]; simp), if_pos hok]
end Go.Proofs.Ytbceakdifklocaa.DwP
