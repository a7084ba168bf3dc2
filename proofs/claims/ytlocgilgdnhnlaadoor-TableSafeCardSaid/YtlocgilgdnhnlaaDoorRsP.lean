/- The encoder, plain: the generator, the register, and that data and parity have no syndromes; and that what is lost of such a word is known by its syndromes. -/
import Derived.Test.YtlocgilgdnhnlaaDoorPoP
namespace Go.Proofs.YtlocgilgdnhnlaaDoor.RsP
open Go.Proofs.YtlocgilgdnhnlaaDoor.GfP Go.Proofs.YtlocgilgdnhnlaaDoor.PoP
/-- the value, the first one being the highest coefficient -/
def hr (l : List UInt8) (x : UInt8) : UInt8 := l.foldl (fun o c => gm o x ^^^ c) 0
theorem hr_from (x : UInt8) : ∀ (l : List UInt8) (o : UInt8), l.foldl (fun o c => gm o x ^^^ c) o = gm o (pw x l.length) ^^^ hr l x
  | [], o => by rw [List.foldl_nil, hr, List.foldl_nil, x0]; exact (gm_one o).symm
  | c :: t, o => by
    have h : hr (c :: t) x = gm c (pw x t.length) ^^^ hr t x := by rw [hr, List.foldl_cons, hr_from x t, zero_gm, zx]
    rw [List.foldl_cons, hr_from x t, h, xor_gm, List.length_cons, pw, gm_assoc, UInt8.xor_assoc]
theorem hr_append (l m : List UInt8) (x : UInt8) : hr (l ++ m) x = gm (hr l x) (pw x m.length) ^^^ hr m x := by
  rw [hr, List.foldl_append, hr_from]; rfl
theorem hr_snoc (l : List UInt8) (c x : UInt8) : hr (l ++ [c]) x = gm (hr l x) x ^^^ c := by rw [hr, List.foldl_append]; rfl
theorem hr_sum (l : List UInt8) (x : UInt8) : hr l x = sm (fun i => gm (l.getD i 0) (pw x (l.length - 1 - i))) l.length := by
  induction l with
  | nil => rfl
  | cons c t ih =>
    have h := hr_append [c] t x
    rw [List.singleton_append] at h
    rw [h, List.length_cons, sm_shift, ih]
    congr 1
    · rw [show hr [c] x = gm 0 x ^^^ c from rfl, zero_gm, zx]
      simp
    · refine sm_congr (fun i hi => ?_)
      rw [List.getD_cons_succ, show t.length + 1 - 1 - (i + 1) = t.length - 1 - i by omega]
theorem hr_rev (l : List UInt8) (x : UInt8) : hr l.reverse x = ev (fun i => l.getD i 0) l.length x := by
  rw [hr_sum, List.length_reverse, ev, ← sm_rev]
  refine sm_congr (fun i hi => ?_)
  rw [show l.length - 1 - (l.length - 1 - i) = i by omega]
  congr 1
  rw [List.getD_eq_getElem?_getD, List.getD_eq_getElem?_getD, List.getElem?_reverse (by omega), show l.length - 1 - (l.length - 1 - i) = i by omega]
/-- by r + x -/
def mulr (r : UInt8) (f : Nat → UInt8) (n : Nat) : UInt8 := gm r (f n) ^^^ up f n
theorem ev_mulr (r : UInt8) (f : Nat → UInt8) (d : Nat) (x : UInt8) (h : f d = 0) : ev (mulr r f) (d + 1) x = gm (r ^^^ x) (ev f d x) := by
  have hm : ev f (d + 1) x = ev f d x := ev_more x (Nat.le_succ d) (fun i h1 h2 => by
    obtain rfl : i = d := by omega
    exact h)
  rw [show mulr r f = fun n => (fun n => gm r (f n)) n ^^^ up f n from rfl, ev_xor, ev_gm, ev_up, xor_gm, hm]
def gen : Nat → Nat → UInt8
  | 0 => one
  | k + 1 => mulr (ex k) (gen k)
theorem gen_deg : ∀ (k n : Nat), k < n → gen k n = 0
  | 0, n, h => if_neg (by omega)
  | k + 1, n, h => by rw [gen, mulr, gen_deg k n (by omega), gm_zero, zx, up, if_neg (by omega), gen_deg k _ (by omega)]
theorem gen_top : ∀ k : Nat, gen k k = 1
  | 0 => rfl
  | k + 1 => by rw [gen, mulr, gen_deg k _ (by omega), gm_zero, zx, up, if_neg (by omega), Nat.add_sub_cancel, gen_top k]
theorem gen_root : ∀ (k j : Nat), j < k → ev (gen k) (k + 1) (ex j) = 0
  | 0, j, h => by omega
  | k + 1, j, h => by
    rw [gen, ev_mulr _ _ _ _ (gen_deg k _ (by omega))]
    by_cases e : j = k
    · rw [e, xx, zero_gm]
    · rw [gen_root k j (by omega), gm_zero]
/-- the register behind a byte -/
def stepR (R : Nat → UInt8) (d : UInt8) (k : Nat) : UInt8 := (if k < 63 then R (k + 1) else 0) ^^^ gm (d ^^^ R 0) (gen 64 (63 - k))
def regV (R : Nat → UInt8) (a : UInt8) : UInt8 := sm (fun k => gm (R k) (pw a (63 - k))) 64
theorem reg_shift (R : Nat → UInt8) (a : UInt8) (N : Nat) : gm a (sm (fun k => gm (R k) (pw a (N - k))) (N + 1)) = gm (R 0) (pw a (N + 1)) ^^^ sm (fun k => gm (R (k + 1)) (pw a (N - k))) N := by
  rw [← sm_gm, sm_shift, Nat.sub_zero, gm_left_comm, pw]
  refine congrArg (gm (R 0) (gm a (pw a N)) ^^^ ·) (sm_congr (fun k hk => ?_))
  rw [gm_left_comm, show N - k = (N - (k + 1)) + 1 by omega, pw]
theorem regV_step (R : Nat → UInt8) (d a : UInt8) (h : ev (gen 64) 65 a = 0) : regV (stepR R d) a = gm a (regV R a) ^^^ gm d (pw a 64) := by
  have h1 : regV (stepR R d) a = sm (fun k => gm (if k < 63 then R (k + 1) else 0) (pw a (63 - k))) 64 ^^^ gm (d ^^^ R 0) (sm (fun k => gm (gen 64 (63 - k)) (pw a (63 - k))) 64) := by
    unfold regV stepR
    rw [← sm_gm, ← sm_xor]
    exact sm_congr (fun k _ => by rw [xor_gm, gm_assoc])
  have h2 : sm (fun k => gm (gen 64 (63 - k)) (pw a (63 - k))) 64 = pw a 64 := by
    have e : sm (fun k => gm (gen 64 (63 - k)) (pw a (63 - k))) 64 = ev (gen 64) 64 a := sm_rev (fun i => gm (gen 64 i) (pw a i)) 64
    have e2 : ev (gen 64) 65 a = ev (gen 64) 64 a ^^^ gm (gen 64 64) (pw a 64) := rfl
    rw [h, gen_top, one_gm] at e2
    rw [e]
    exact x_zero e2.symm
  have h3 : sm (fun k => gm (if k < 63 then R (k + 1) else 0) (pw a (63 - k))) 64 = sm (fun k => gm (R (k + 1)) (pw a (63 - k))) 63 := by
    have e : ∀ F : Nat → UInt8, sm F 64 = sm F 63 ^^^ F 63 := fun F => rfl
    rw [e, if_neg (by omega), zero_gm, x0]
    exact sm_congr (fun k hk => by rw [if_pos hk])
  have h4 : gm a (regV R a) = gm (R 0) (pw a 64) ^^^ sm (fun k => gm (R (k + 1)) (pw a (63 - k))) 63 := reg_shift R a 63
  rw [h1, h2, h3, h4, xor_gm]
  generalize sm (fun k => gm (R (k + 1)) (pw a (63 - k))) 63 = S
  generalize gm (R 0) (pw a 64) = A
  generalize gm d (pw a 64) = D
  rw [UInt8.xor_comm D A, ← UInt8.xor_assoc, UInt8.xor_comm S A]
def encR (data : List UInt8) : Nat → UInt8 := data.foldl stepR (fun _ => 0)
theorem encR_snoc (l : List UInt8) (d : UInt8) : encR (l ++ [d]) = stepR (encR l) d := by rw [encR, List.foldl_append]; rfl
theorem regV_enc (a : UInt8) (h : ev (gen 64) 65 a = 0) (data : List UInt8) : regV (encR data) a = gm (hr data a) (pw a 64) := by
  have key : ∀ n, regV (encR (data.take n)) a = gm (hr (data.take n) a) (pw a 64) := fun n => by
    induction n with
    | zero =>
      rw [List.take_zero]
      rw [show hr [] a = 0 from rfl, zero_gm]
      exact sm_zero (fun _ _ => zero_gm _)
    | succ n ih =>
      rcases Nat.lt_or_ge n data.length with h1 | h1
      · rw [List.take_add_one, List.getElem?_eq_getElem h1, Option.toList_some, encR_snoc, regV_step _ _ _ h, ih, hr_snoc, xor_gm, gm_comm (hr _ a) a, gm_assoc]
      · rw [List.take_of_length_le (by omega)]
        rw [List.take_of_length_le (by omega)] at ih
        exact ih
  have := key data.length
  rwa [List.take_length] at this
/-- the parity -/
def enc (data : List UInt8) : List UInt8 := (List.range 64).map (encR data)
theorem enc_len (data : List UInt8) : (enc data).length = 64 := by simp [enc]
theorem word_ok (data : List UInt8) (j : Nat) (hj : j < 64) : hr (data ++ enc data) (ex j) = 0 := by
  have h := gen_root 64 j hj
  rw [hr_append, hr_sum (enc data), enc_len, ← regV_enc (ex j) h data]
  have e : sm (fun i => gm ((enc data).getD i 0) (pw (ex j) (64 - 1 - i))) 64 = regV (encR data) (ex j) := sm_congr (fun i hi => by
    rw [enc, List.getD_eq_getElem?_getD, List.getElem?_map, List.getElem?_range hi]
    rfl)
  rw [e, xx]
/-- where a place is -/
def loc (n : Nat) : UInt8 := ex (254 - n)
theorem loc_ne (n : Nat) : loc n ≠ 0 := ex_ne _
theorem loc_inj {a b : Nat} (ha : a < 255) (hb : b < 255) (h : loc a = loc b) : a = b := by
  have := ex_inj (i := 254 - a) (j := 254 - b) (by omega) (by omega) h
  omega
/-- the syndromes of a text of which a word is known but for what is lost -/
theorem syn_of {r c : List UInt8} {L : List Nat} (hr1 : r.length = 255) (hc : c.length = 255) (hn : L.Nodup) (hL : ∀ n ∈ L, n < 255) (hw : ∀ j, j < 64 → hr c (ex j) = 0) (he : ∀ n, n < 255 → n ∉ L → r.getD n 0 = c.getD n 0) (j : Nat) (hj : j < 64) :
    hr r (ex j) = syn L loc (fun n => r.getD n 0 ^^^ c.getD n 0) j := by
  have h1 : hr r (ex j) = hr r (ex j) ^^^ hr c (ex j) := by rw [hw j hj, x0]
  rw [h1, hr_sum, hr_sum, hr1, hc, ← sm_xor, sm_list (L := L) hn hL (fun i hi hni => by rw [he i hi hni, xx])]
  unfold syn
  refine sL_congr (fun n hn => ?_)
  rw [← xor_gm, loc, pw_flip]
end Go.Proofs.YtlocgilgdnhnlaaDoor.RsP
