import Derived.Test.YtbiiehobfnbloaaGreatDoorTpTpP
namespace Go.Proofs.YtbiiehobfnbloaaGreatDoor.TpX
open Go St BiH JnP JnR JnS RdP PaA PaP PaK PkY TpP
def dups (tw : List Int) (k m : Nat) : List Int := (tw.take m).filter (fun x => x == (k : Int))
def allK (pid : Int) (c : Nat) (S : List ByteArray) (tw : List Int) (k : Nat) : Bs := (pcs pid c S tw k).flatten
def allI (pid : Int) (c : Nat) (S : List ByteArray) (tw : List Int) (k m : Nat) : Bs := allK pid c S tw k ++ byt pid c S k ++ (dups tw k m).flatMap (fun _ => byt pid c S k ++ nilB)
theorem allI_zero (pid : Int) (c : Nat) (S : List ByteArray) (tw : List Int) (k : Nat) : allI pid c S tw k 0 = allK pid c S tw k ++ byt pid c S k := by simp [allI, dups]
theorem allI_yes {pid : Int} {c : Nat} {S : List ByteArray} {tw : List Int} {k m : Nat} {x : Int} (hx : tw[m]? = some x) (h : x = (k : Int)) : allI pid c S tw k (m + 1) = (allI pid c S tw k m ++ byt pid c S k) ++ nilB := by
 unfold allI dups
 rw [List.take_add_one, hx, List.filter_append, List.flatMap_append]
 subst h
 simp
theorem allI_no {pid : Int} {c : Nat} {S : List ByteArray} {tw : List Int} {k m : Nat} {x : Int} (hx : tw[m]? = some x) (h : ¬ x = (k : Int)) : allI pid c S tw k (m + 1) = allI pid c S tw k m := by
 unfold allI dups
 rw [List.take_add_one, hx, List.filter_append, List.flatMap_append]
 simp [h]
theorem flat_two (X : List Int) (a b : Bs) : (X.flatMap (fun _ => [a, b])).flatten = X.flatMap (fun _ => a ++ b) := by
 induction X with
 | nil => rfl
 | cons x t ih => simp [List.flatMap_cons, ih]
theorem allI_all {pid : Int} {c : Nat} {S : List ByteArray} {tw : List Int} {k m : Nat} (hm : tw.length = m) : allI pid c S tw k m = allK pid c S tw (k + 1) := by
 unfold allI allK dups
 rw [List.take_of_length_le (by omega), pcs_succ, List.flatten_append]
 unfold blk
 rw [List.flatten_cons, flat_two, List.append_assoc]
theorem pcs_num (pid : Int) (c : Nat) (S : List ByteArray) (tw : List Int) : ∀ k, (pcs pid c S tw k).length ≤ k * (1 + 2 * tw.length)
 | 0 => by simp [pcs]
 | k + 1 => by
   have ih := pcs_num pid c S tw k
   have hf := List.length_filter_le (fun x => x == (k : Int)) tw
   have hb : (blk pid c S tw k).length ≤ 1 + 2 * tw.length := by
     unfold blk
     rw [List.length_cons, List.length_flatMap]
     have : ∀ X : List Int, (X.map (fun _ => [byt pid c S k, nilB].length)).sum = 2 * X.length := fun X => by
       induction X with
       | nil => rfl
       | cons x t ih => rw [List.map_cons, List.sum_cons, ih, List.length_cons, List.length_cons, List.length_cons, List.length_nil]; omega
     rw [this]
     omega
   rw [pcs_succ, List.length_append, Nat.add_mul]
   omega
theorem allI_len {pid : Int} (hp : 0 ≤ pid ∧ pid < 8191) {c : Nat} {S : List ByteArray} {tw : List Int} {k m K : Nat} (hS : ∀ s ∈ S, paE s = 0) (hK : nP (S.map ByteArray.size) = K) (hk : k < K) (ht : tw.length ≤ 60) (hK2 : K ≤ 1000000) :
   (allI pid c S tw k m).length ≤ 100000000000 ∧ (byt pid c S k).length = 188 ∧ nilB.length = 188 := by
 have hb := bst_of hS
 rw [hK] at hb
 have h1 := flat_len (L := pcs pid c S tw k) (pcs_len hp (fun j hj => hb.more j (by omega)))
 have h2 := pcs_num pid c S tw k
 have h3 := byt_len hp c S k (hb.more k hk)
 have h4 := nilB_len
 have h5 := List.length_filter_le (fun x => x == (k : Int)) (tw.take m)
 have h6 : (tw.take m).length ≤ 60 := by rw [List.length_take]; omega
 refine ⟨?_, h3, h4⟩
 unfold allI allK dups
 rw [List.length_append, List.length_append, h1, h3, List.length_flatMap]
 have h7 : (List.map (fun _ : Int => (byt pid c S k ++ nilB).length) (List.filter (fun x => x == (k : Int)) (tw.take m))).sum ≤ 60 * 376 := by
   have : ∀ X : List Int, (X.map (fun _ => (byt pid c S k ++ nilB).length)).sum = X.length * 376 := fun X => by
     induction X with
     | nil => rfl
     | cons x t ih => rw [List.map_cons, List.sum_cons, ih, List.length_append, h3, h4, List.length_cons]; omega
   rw [this]
   exact Nat.mul_le_mul_right _ (by omega)
 have h8 : k * (1 + 2 * tw.length) ≤ 1000000 * 121 := Nat.mul_le_mul (by omega) (by omega)
 omega
theorem allK_len {pid : Int} (hp : 0 ≤ pid ∧ pid < 8191) {c : Nat} {S : List ByteArray} {tw : List Int} {K : Nat} (hS : ∀ s ∈ S, paE s = 0) (hK : nP (S.map ByteArray.size) = K) (ht : tw.length ≤ 60) (hK2 : K ≤ 1000000) : ∀ k, k ≤ K → (allK pid c S tw k).length ≤ 100000000000 := fun k hk => by
 have hb := bst_of hS
 rw [hK] at hb
 have h1 := flat_len (L := pcs pid c S tw k) (pcs_len hp (fun j hj => hb.more j (by omega)))
 have h2 := pcs_num pid c S tw k
 have h8 : k * (1 + 2 * tw.length) ≤ 1000000 * 121 := Nat.mul_le_mul (by omega) (by omega)
 unfold allK
 omega
theorem jn_cnt {pid : Int} (hp : 0 ≤ pid ∧ pid < 8191) (c : Nat) {S : List ByteArray} (h : ∀ s ∈ S, paE s = 0) {k : Nat} (hk : k ≤ nP (S.map ByteArray.size)) : 0 ≤ (jnK pid c S k).cnt ∧ (jnK pid c S k).cnt ≤ 15 := by
 have hb := bst_of h
 obtain ⟨hj, _⟩ := jk_all hp c (fun s hs => gd_of (h s hs)) k (fun j hj => hb.more j (by omega))
 rcases hj.c with ⟨_, h2, _⟩ | ⟨i, _, h2, _⟩
 · rw [h2]; omega
 · rw [h2]
   have : (pkO pid c S i).count = (((c + i) % 16 : Nat) : Int) := rfl
   omega
theorem num_le {S : List ByteArray} {n : Nat} (hn : S.length ≤ n) (hs : ∀ s ∈ S, s.size ≤ 5000) : nP (S.map ByteArray.size) ≤ n * 5000 + 1 := by
 have h1 := nP_le (S.map ByteArray.size)
 have h2 : ∀ (L : List ByteArray), (∀ s ∈ L, s.size ≤ 5000) → (L.map ByteArray.size).sum ≤ L.length * 5000 := fun L => by
   induction L with
   | nil => intro _; simp
   | cons x t ih =>
     intro h
     have h3 := h x (by simp)
     have h4 := ih (fun s hs => h s (by simp [hs]))
     rw [List.map_cons, List.sum_cons, List.length_cons, Nat.add_mul]
     omega
 have h3 := h2 S hs
 have h4 : S.length * 5000 ≤ n * 5000 := Nat.mul_le_mul_right _ hn
 omega
theorem flat_str (L : List ByteArray) : L.map Value.string = Ap.flat CrB.enS L := by
 induction L with
 | nil => rfl
 | cons x t ih => rw [List.map_cons, ih]; rfl
end Go.Proofs.YtbiiehobfnbloaaGreatDoor.TpX
