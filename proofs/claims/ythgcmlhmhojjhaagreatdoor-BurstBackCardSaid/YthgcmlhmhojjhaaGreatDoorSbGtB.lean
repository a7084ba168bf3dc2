/- The law's gathered: which sections a gatherer took, and what is out. -/
import Derived.Test.YthgcmlhmhojjhaaGreatDoorSbBoQ
import Derived.Test.YthgcmlhmhojjhaaGreatDoorSbBoM
import Derived.Test.YthgcmlhmhojjhaaGreatDoorSbTkA
namespace Go.Proofs.YthgcmlhmhojjhaaGreatDoor.GtB
open Go Go.RowKit Go.Proofs.YthgcmlhmhojjhaaGreatDoor.Q Go.Proofs.YthgcmlhmhojjhaaGreatDoor.Mem Go.Proofs.YthgcmlhmhojjhaaGreatDoor.Rg Go.Proofs.YthgcmlhmhojjhaaGreatDoor.Ap Go.Proofs.YthgcmlhmhojjhaaGreatDoor.ApG Go.Proofs.YthgcmlhmhojjhaaGreatDoor.St Go.Proofs.YthgcmlhmhojjhaaGreatDoor.CrB Go.Proofs.YthgcmlhmhojjhaaGreatDoor.Ints Go.Proofs.YthgcmlhmhojjhaaGreatDoor.Tab Go.Proofs.YthgcmlhmhojjhaaGreatDoor.SeA Go.Proofs.YthgcmlhmhojjhaaGreatDoor.SeC Go.Proofs.YthgcmlhmhojjhaaGreatDoor.SeI Go.Proofs.YthgcmlhmhojjhaaGreatDoor.TbM Go.Proofs.YthgcmlhmhojjhaaGreatDoor.TbO Go.Proofs.YthgcmlhmhojjhaaGreatDoor.TbP Go.Proofs.YthgcmlhmhojjhaaGreatDoor.TbT Go.Proofs.YthgcmlhmhojjhaaGreatDoor.TbU Go.Proofs.YthgcmlhmhojjhaaGreatDoor.TbV Go.Proofs.YthgcmlhmhojjhaaGreatDoor.TbW Go.Proofs.YthgcmlhmhojjhaaGreatDoor.FrA Go.Proofs.YthgcmlhmhojjhaaGreatDoor.FrB Go.Proofs.YthgcmlhmhojjhaaGreatDoor.FrC Go.Proofs.YthgcmlhmhojjhaaGreatDoor.LaH Go.Proofs.YthgcmlhmhojjhaaGreatDoor.LaQ Go.Proofs.YthgcmlhmhojjhaaGreatDoor.BuA Go.Proofs.YthgcmlhmhojjhaaGreatDoor.BuB Go.Proofs.YthgcmlhmhojjhaaGreatDoor.BuC Go.Proofs.YthgcmlhmhojjhaaGreatDoor.BuD Go.Proofs.YthgcmlhmhojjhaaGreatDoor.BuE Go.Proofs.YthgcmlhmhojjhaaGreatDoor.BuI Go.Proofs.YthgcmlhmhojjhaaGreatDoor.BuL Go.Proofs.YthgcmlhmhojjhaaGreatDoor.BuN Go.Proofs.YthgcmlhmhojjhaaGreatDoor.BuO Go.Proofs.YthgcmlhmhojjhaaGreatDoor.BuP Go.Proofs.YthgcmlhmhojjhaaGreatDoor.BuS Go.Proofs.YthgcmlhmhojjhaaGreatDoor.BuT Go.Proofs.YthgcmlhmhojjhaaGreatDoor.BoP Go.Proofs.YthgcmlhmhojjhaaGreatDoor.BoQ Go.Proofs.YthgcmlhmhojjhaaGreatDoor.BoM Go.Proofs.YthgcmlhmhojjhaaGreatDoor.GtA

set_option maxRecDepth 100000
theorem tk_same {S : Tb} {mac : Int} {t : ByteArray} (h : tkE S.R mac t ≠ 0) : tkT S mac t = S ∧ tkF S.R mac t = false := by
  unfold tkE at h
  unfold tkT tkF
  cases hM : isM t with
  | true =>
    rw [hM, if_pos rfl] at h
    rw [if_pos rfl, if_pos rfl]
    unfold grmT grmF
    exact ⟨if_pos h, if_pos h⟩
  | false =>
    rw [hM, if_neg Bool.false_ne_true] at h
    rw [if_neg Bool.false_ne_true, if_neg Bool.false_ne_true]
    cases hF : isF t with
    | true =>
      rw [hF, if_pos rfl] at h
      rw [if_pos rfl, if_pos rfl]
      unfold colT colF
      exact ⟨if_pos h, if_pos h⟩
    | false => exact ⟨rfl, rfl⟩
theorem flip_bad {F : Fr} (h : FrS F) {i j : Nat} {s : ByteArray} (hs : (mkL F 7)[i]? = some s) (hj : j < s.size) (R : Nat) : tkE R (-1) (GtA.flip s j) ≠ 0 := by
  obtain ⟨sc, rfl⟩ : ∃ sc : Sc, s = bytesS sc := by
    have hi := (List.getElem?_eq_some_iff.1 hs).1
    rw [mkL_len] at hi
    by_cases e : i < F.L.length
    · obtain ⟨x, hx⟩ : ∃ x, F.L[i]? = some x := ⟨_, List.getElem?_eq_getElem e⟩
      rw [mk_m hx 7] at hs
      injection hs with hs
      have hc : (gp F.L 7 (decide (64 - F.K = 0)) i).chk = 0 := by rw [gp_chk h.mks.good hx, if_pos ⟨by decide, by decide⟩]
      exact ⟨_, hs.symm.trans (if_pos hc)⟩
    · obtain ⟨k, rfl⟩ : ∃ k, i = F.L.length + k := ⟨i - F.L.length, by omega⟩
      have hk : k < 64 - F.K := by omega
      rw [mk_f hk 7] at hs
      injection hs with hs
      have hc : (cp (padN F : Nat) (parL F (64 - F.K)) k).chk = 0 := cp_chk h.mks.col (par_get hk)
      exact ⟨_, hs.symm.trans (if_pos hc)⟩
  have hc : (bl (bytesS sc))[j]? = some ((bl (bytesS sc)).getD j 0) := by
    rw [List.getD_eq_getElem?_getD, List.getElem?_eq_getElem (by rw [bl_len]; exact hj)]; rfl
  have hne : (bl (bytesS sc)).getD j 0 ≠ (bl (bytesS sc)).getD j 0 ^^^ 1 := fun e => by
    have := congrArg ((bl (bytesS sc)).getD j 0 ^^^ ·) e
    simp only [UInt8.xor_self, ← UInt8.xor_assoc, UInt8.zero_xor] at this
    cases this
  have hb := (Turn.turned_bad hc hne).1
  have ht : tmE (GtA.flip (bytesS sc) j) ≠ 0 := by
    unfold GtA.flip tmE
    split
    · unfold MpC.mdE; rw [if_pos hb]; exact hb
    · split
      · unfold FcC.fdE; rw [if_pos hb]; exact hb
      · decide
  rw [TkA.tk_err ht]
  exact ht
/-- is a section taken? -/
def tkB (L : List (Int × Int)) (lost : List Int) (M : List ByteArray) (j : Nat) : Bool := (L.find? (hitB j (M.getD j nob).size)).isNone && !decide ((j : Int) ∈ lost)
def enB (b : Bool) : List Value := [.bool b]
theorem elemB : Elem Tryz.prog 49 4 1 1 := elem_of Tryz.underlying49 (z := .bool false) (by kernel_rfl) rfl (by decide)
/-- what a block holds -/
def Tyb (w : World) (i : Nat) (t : TypeId) : Prop := ∃ cs p, w.heap[i]? = some (.cells cs t p)
theorem Tyb.uniq {w : World} {i : Nat} {t t' : TypeId} (h : Tyb w i t) (h' : Tyb w i t') : t = t' := by
  obtain ⟨cs, p, e⟩ := h
  obtain ⟨cs', p', e'⟩ := h'
  rw [e] at e'
  injection e' with e'
  injection e'
theorem tyb_blk {w : World} {i : Nat} {t : TypeId} {cs : Array Value} (h : Blk w i t cs) : Tyb w i t := ⟨_, _, h⟩
theorem tyb_own {w : World} {B n sz i : Nat} {e : TypeId} {v : Value} {xs : List Value} (h : w.ownsRow B e sz v n xs) (hi : v.ownBlock = some i) : Tyb w i e := by
  rcases h.2 with ⟨h1, _⟩ | ⟨g, cap, cur, h1, _, h3, _⟩
  · rw [h1] at hi; cases hi
  · rw [h1] at hi
    injection hi with hi
    subst hi
    exact ⟨_, _, h3⟩
theorem ga_off {w : World} {B g gt gr : Nat} {v : Value} {S : Tb} {mac : Int} {n i : Nat} {t : TypeId} (h : GaA w B g gt gr v S mac n) (hi : Tyb w i t) (h1 : t ≠ 74) (h2 : t ≠ 116) (h3 : t ≠ 135) (h4 : t ≠ 3) : ¬ footG g gt gr v i := by
  rintro (e | e | e | e)
  · subst e; exact h1 (hi.uniq (tyb_blk h.box))
  · subst e; exact h2 (hi.uniq (tyb_blk h.t.box))
  · subst e
    obtain ⟨cs, h5, _⟩ := h.t.rows
    exact h3 (hi.uniq ⟨_, _, h5⟩)
  · exact h4 (hi.uniq (tyb_own h.t.st e))
/-- what gathered has in memory -/
structure Gt (w W : World) (B g gt gr : Nat) (v : Value) (T : Tb) (n xb rb gb : Nat) (x : Array Value) (tv : Value) (bs : List Bool) : Prop where
  ga : GaA W B g gt gr v T (-1) n
  bx : Blk W xb 46 x
  br : Blk W rb 52 #[.slice none 0 0, .slice none 0 0, .int .i64 0, .int .i64 0, .bool false]
  bo : Blk W gb 52 #[tv, .slice none 0 0, .int .i64 0, .int .i64 0, .bool true]
  ow : W.ownsRow w.heap.size 4 1 tv bs.length (flat enB bs)
  be : Below w.heap.size w W
  ne : rb ≠ gb
  hb : w.heap.size ≤ gb
section
variable {w W W' : World} {B g gt gr n n' xb rb gb : Nat} {v v' tv : Value} {T T' : Tb} {x : Array Value} {bs : List Bool}
theorem Gt.below (h : Gt w W B g gt gr v T n xb rb gb x tv bs) (k : Below W.heap.size W W') : Gt w W' B g gt gr v T n xb rb gb x tv bs :=
  ⟨h.ga.below k, Blk.below h.bx k h.bx.lt, Blk.below h.br k h.br.lt, Blk.below h.bo k h.bo.lt, own_below h.ow k, h.be.trans (k.mono h.be.size), h.ne, h.hb⟩
theorem Gt.take (h : Gt w W B g gt gr v T n xb rb gb x tv bs) (hB : w.heap.size ≤ B) (ha : GaA W' B g gt gr v' T' (-1) n') (k : Kept (footG g gt gr v) W W') : Gt w W' B g gt gr v' T' n' xb rb gb x tv bs :=
  ⟨ha, (k.block xb h.bx.lt (ga_off h.ga (tyb_blk h.bx) (by decide) (by decide) (by decide) (by decide))).trans h.bx,
   (k.block rb h.br.lt (ga_off h.ga (tyb_blk h.br) (by decide) (by decide) (by decide) (by decide))).trans h.br,
   (k.block gb h.bo.lt (ga_off h.ga (tyb_blk h.bo) (by decide) (by decide) (by decide) (by decide))).trans h.bo,
   FrA.own_kept h.ow k (fun i hi => ga_off h.ga (tyb_own h.ow hi) (by decide) (by decide) (by decide) (by decide)),
   h.be.trans (k.be h.be.size (fun i hi => Nat.le_trans hB (h.ga.ge i hi).1)), h.ne, h.hb⟩
theorem Gt.app (h : Gt w W B g gt gr v T n xb rb gb x tv bs) {b : Bool} {v9 : Value} (h9 : W'.ownsRow w.heap.size 4 1 v9 (bs.length + 1) (flat enB bs ++ [.bool b])) (hg : W.grownBy W' tv.ownBlock) :
    Gt w (W'.setCell ⟨gb, 0, none⟩ v9) B g gt gr v T n xb rb gb x v9 (bs ++ [b]) := by
  have k1 : Kept (fun i => tv.ownBlock = some i) W W' := kept_grown hg (fun r e => e)
  have k2 : Kept (fun i => i = gb) W' (W'.setCell ⟨gb, 0, none⟩ v9) := kept_set rfl
  have K : Kept (fun i => tv.ownBlock = some i ∨ i = gb) W (W'.setCell ⟨gb, 0, none⟩ v9) := (k1.mono (fun _ _ e => Or.inl e)).trans k2 (fun _ _ e => Or.inr e)
  have n1 : ∀ {i : Nat} {t : TypeId}, Tyb W i t → t ≠ 4 → tv.ownBlock ≠ some i := fun hi ht e => ht (hi.uniq (tyb_own h.ow e))
  have bo' : Blk W' gb 52 _ := (k1.block gb h.bo.lt (n1 (tyb_blk h.bo) (by decide))).trans h.bo
  refine ⟨ga_kept h.ga K (fun i hi hf => hf.elim (fun e => ga_off h.ga (tyb_own h.ow e) (by decide) (by decide) (by decide) (by decide) hi) (fun e => ga_off h.ga (tyb_blk h.bo) (by decide) (by decide) (by decide) (by decide) (e ▸ hi))),
    (K.block xb h.bx.lt (fun e => e.elim (n1 (tyb_blk h.bx) (by decide)) (fun e => absurd ((tyb_blk h.bx).uniq (e ▸ tyb_blk h.bo)) (by decide)))).trans h.bx,
    (K.block rb h.br.lt (fun e => e.elim (n1 (tyb_blk h.br) (by decide)) h.ne)).trans h.br, Blk.set_ bo' 0 v9, ?_,
    h.be.trans (K.be h.be.size (fun i hi => hi.elim (fun e => (h.ow.lt i e).1) (fun e => e ▸ h.hb))), h.ne, h.hb⟩
  rw [flat_app, List.length_append]
  exact FrA.own_kept h9 k2 (fun i hi e => absurd ((tyb_own h9 hi).uniq (e ▸ tyb_blk bo')) (by decide))
end
/-- what gathered answers -/
structure GotIn (w : World) (F : Fr) (tk : Nat → Bool) (N : Nat) (e : Ending) (w' : World) : Prop where
  ex : ∃ (T : Tb) (tv ov : Value), KnS F T (fun j => tk j = true) ∧ e = .returned (.agg #[tv, ov, .int .i64 (cntM T 256 : Nat), .int .i64 (cntF T 256 : Nat), .bool true]) ∧
    w'.ownsRow w.heap.size 4 1 tv N (flat enB ((List.range N).map tk)) ∧ w'.ownsRow w.heap.size 58 2 ov (outAt (mdS T (rowC F) 256) 0).length (flat (enPl (mdS T (rowC F) 256)) (outAt (mdS T (rowC F) 256) 0))
  be : Below w.heap.size w w'
theorem tk_ne {tk : Nat → Bool} {i j : Nat} (hi : tk i = false) (hj : tk j = true) : j ≠ i := fun e => by rw [e, hi] at hj; cases hj
set_option maxHeartbeats 6400000 in
theorem gathered_any (F : Fr) (la ta : Option Addr) (ln lc tn tc mb mo mc N : Nat) (lost : List Int) (L : List (Int × Int)) (w : World) (hF : FrS F) (hT : Tab 2 w) (hZ : Tab 0 w) (hln : lost.length = ln) (hl : ln ≤ 9223372036854775807) (hlo : Ints w la lost)
    (htn : L.length = tn) (ht : tn ≤ 9223372036854775807) (hTL : Seq enT2 2 w ta L) (hN : (mkL F 7).length = N) (hm : Seq enS 1 w (some ⟨mb, mo, none⟩) (mkL F 7)) :
    Calls Tryz.prog 17 #[.slice (some ⟨mb, mo, none⟩) N mc, .agg #[.slice la ln lc, .slice ta tn tc]] w (GotIn w F (fun j => decide (j < N) && tkB L lost (mkL F 7) j) N) := by
  obtain ⟨Q, hQ⟩ : ∃ Q, Q = GotIn w F (fun j => decide (j < N) && tkB L lost (mkL F 7) j) N := ⟨_, rfl⟩
  rw [← hQ]
  have HQ := Lib.hid hQ
  have HFS := Lib.hid hF
  have HT := Lib.hid (And.intro hT hZ)
  have HL := Lib.hid (And.intro hln (And.intro hl hlo))
  have HTL := Lib.hid (And.intro htn (And.intro ht hTL))
  have HNN := Lib.hid hN
  have HM := Lib.hid hm
  have hN84 : N ≤ 84 := by have h1 := mkL_len F 7; have h2 := hF.mks.n; omega
  have hB1 := Blk.new w 46 #[.slice la ln lc, .slice ta tn tc]
  have hbe1 := (Below.refl _ w).alloc (Nat.le_refl _) (.cells #[.slice la ln lc, .slice ta tn tc] 46)
  have hB2 := hB1.alloc (.cells #[.slice none 0 0, .slice none 0 0, .int .i64 0, .int .i64 0, .bool false] 52)
  have hB3 := Blk.newAt (w.alloc (.cells #[.slice la ln lc, .slice ta tn tc] 46)) 52 #[.slice none 0 0, .slice none 0 0, .int .i64 0, .int .i64 0, .bool false] (show w.heap.size + 1 = (w.alloc (.cells #[.slice la ln lc, .slice ta tn tc] 46)).heap.size by simp)
  have hbe2 := hbe1.alloc hbe1.size (.cells #[.slice none 0 0, .slice none 0 0, .int .i64 0, .int .i64 0, .bool false] 52)
  obtain ⟨V, hV⟩ : ∃ V, (w.alloc (.cells #[.slice la ln lc, .slice ta tn tc] 46)).alloc (.cells #[.slice none 0 0, .slice none 0 0, .int .i64 0, .int .i64 0, .bool false] 52) = V := ⟨_, rfl⟩
  rw [hV] at hB2 hB3 hbe2
  have HB2 := Lib.hid hB2
  have HB3 := Lib.hid hB3
  have HBE := Lib.hid hbe2
  have kb := bnew_yes 256 (-1) V (hZ.be hbe2) (by decide)
  clear hQ hF hT hZ hln hl hlo htn ht hTL hN hm hB1 hbe1 hB2 hB3 hbe2
  go_enter Tryz.func17, Tryz.ntmps17
  go_wp2_with fail
  (with_reducible refine (kb).mono ?_); rintro e1 W2 ⟨hb2, R1, g, gt, gr, hR1, _, _, rfl, hga⟩
  obtain rfl : R1 = 256 := by omega
  have HGA := Lib.hid (TkA.ga_new hga)
  have HBE2 := Lib.hid (HBE.out.trans (hb2.mono HBE.out.size))
  have HX2 := Lib.hid (Blk.below HB2.out hb2 HB2.out.lt)
  have HR2 := Lib.hid (Blk.below HB3.out hb2 HB3.out.lt)
  have HG0 := Lib.hid (show Gt w (W2.alloc (.cells #[.slice none 0 0, .slice none 0 0, .int .i64 0, .int .i64 0, .bool true] 52)) V.heap.size g gt gr (.slice none 0 0) (emptyT 256) 0 w.heap.size (w.heap.size + 1) W2.heap.size #[.slice la ln lc, .slice ta tn tc] (.slice none 0 0) [] from
    ⟨HGA.out.below ((Below.refl _ W2).alloc (Nat.le_refl _) _), HX2.out.alloc _, HR2.out.alloc _, Blk.new _ _ _, World.ownsRow_nil _ _ _ _, HBE2.out.alloc HBE2.out.size _, by have := HR2.out.lt; omega, HBE2.out.size⟩)
  obtain ⟨tk, htk⟩ : ∃ tk, tkB L lost (mkL F 7) = tk := ⟨_, rfl⟩
  have HTK := Lib.hid htk
  rw [htk] at HQ
  clear kb hb2 hga hR1 HGA HX2 HR2 htk
  go_wp2_with fail
  go_loopw [8, 9] (fun nv iv W => ∃ (i n : Nat) (v : Value) (T : Tb) (tv : Value), i ≤ N ∧ nv = .int .i64 n ∧ iv = .int .i64 i ∧ Gt w W V.heap.size g gt gr v T n w.heap.size (w.heap.size + 1) W2.heap.size #[.slice la ln lc, .slice ta tn tc] tv ((List.range i).map tk) ∧ Hid (KnS F T (fun j => j < i ∧ tk j = true)) ∧ Hid (T.st.length ≤ 2 * i ∧ n ≤ i)) (fun _ iv _ => N - (intOf iv).toNat)
  case atStart => exact ⟨0, 0, .slice none 0 0, emptyT 256, .slice none 0 0, by omega, rfl, rfl, HG0.out, Lib.hid ((kns_empty F).congr (fun j => ⟨False.elim, fun h => by omega⟩)), Lib.hid ⟨by simp [emptyT], Nat.le_refl _⟩⟩
  case round =>
    obtain ⟨i, n, v, T, tv, hi, rfl, rfl, hG, HKT, HTN⟩ := hrel
    have i0 : (0 : Int) ≤ (i : Int) := Int.natCast_nonneg _
    have n01 : (0 : Int) ≤ (n : Int) := Int.natCast_nonneg _
    have n02 : (n : Int) ≤ 84 := by have := HTN.out.2; omega
    by_cases hin : i < N
    · have t3 : decide ((i : Int) < (N : Int)) = true := decide_eq_true (by omega)
      have t3' : decide (i < N) = true := decide_eq_true hin
      have i1 : (i : Int) < (N : Int) := by omega
      obtain ⟨s, hs⟩ : ∃ s, (mkL F 7)[i]? = some s := ⟨_, List.getElem?_eq_getElem (by rw [HNN.out]; exact hin)⟩
      have hseq := HM.out.below (Nat.le_refl _) hG.be
      obtain ⟨b0, o0, hbo, hlt, hc⟩ := hseq i s hs
      injection hbo with hbo
      injection hbo with e1 e2
      subst e1 e2
      have hc0 : wr.cell? ⟨mb, mo + i, none⟩ = some (.string s) := hc 0 _ rfl
      have y0 := fun pX => ((below_ext wr pX).cell (p := ⟨mb, mo + i, none⟩) hlt).trans hc0
      have hsz := mk_sz HFS.out hs
      have HHS := Lib.hid hs
      have x0 := fun pX => Blk.cell (blk_ext (hG.bx) pX) 0 (v := .slice la ln lc) rfl
      have x1 := fun pX => Blk.cell (blk_ext (hG.bx) pX) 1 (v := .slice ta tn tc) rfl
      have kbr := fun V' (hb : Below w.heap.size w V') => broken_any la ta ln lc tn tc lost L (i : Int) s V' HL.out.1 HL.out.2.1 (HL.out.2.2.below (Nat.le_refl _) hb) HTL.out.1 HTL.out.2.1 (HTL.out.2.2.below (Nat.le_refl _) hb) (by omega)
      have hGb := fun pX => hG.be.trans ((below_ext wr pX).mono hG.be.size)
      have HG := Lib.hid hG
      have HTE : Hid (tk i = ((L.find? (hitB i s.size)).isNone && !decide ((i : Int) ∈ lost))) := Lib.hid (by rw [← HTK.out]; unfold tkB; rw [List.getD_eq_getElem?_getD, hs]; rfl)
      have HBR := Lib.hid (show brkS L (i : Int) s = (match L.find? (hitB i s.size) with | some p => GtA.flip s p.2.toNat | none => s) ∧ brkI L lost (i : Int) s = (match L.find? (hitB i s.size) with | some _ => true | none => !decide ((i : Int) ∈ lost)) from ⟨rfl, rfl⟩)
      obtain ⟨BS, hBS⟩ : ∃ z, brkS L (i : Int) s = z := ⟨_, rfl⟩
      obtain ⟨BI, hBI⟩ : ∃ z, brkI L lost (i : Int) s = z := ⟨_, rfl⟩
      rw [hBS, hBI] at kbr HBR
      have HFI : Hid (∀ p, L.find? (hitB i s.size) = some p → p.2.toNat < s.size) := Lib.hid (fun p h => by
        have := List.find?_some h
        unfold hitB at this
        have := of_decide_eq_true this
        omega)
      clear hs hlt hc hc0 hseq hBS hBI hG
      go_wp2_with fail
      refine Go.Proofs.YthgcmlhmhojjhaaGreatDoor.Q.region_ext (by kernel_rfl) (by kernel_rfl) ?_
      repeat (go_big_quiet_step ((go_at_call 35; refine ext_call (kbr _ (hGb _)))))
      refine wpQuiet_nil ?_
      rintro w9 ⟨pq, rfl⟩
      have hG6 := HG.out.below (below_ext wr pq)
      obtain ⟨W6, hW6⟩ : ∃ W6, ext wr pq = W6 := ⟨_, rfl⟩
      rw [hW6] at hG6 ⊢
      clear kbr hGb x0 x1 y0 hW6 HG
      have hl6 := HTN.out.1
      cases hfd : L.find? (hitB i s.size) with
      | some p =>
        rw [hfd] at HBR HTE
        have hfi := HFI.out p hfd
        obtain ⟨hq1, hq2⟩ : BS = GtA.flip s p.2.toNat ∧ BI = true := HBR.out
        subst hq1 hq2
        have HTI := Lib.hid (show tk i = false from HTE.out)
        have hbad := flip_bad HFS.out HHS.out hfi T.R
        have hsame := tk_same hbad
        have hfs : (GtA.flip s p.2.toNat).size ≤ 5000 := by unfold GtA.flip; rw [str_size, List.length_set, bl_len]; omega
        have kt := take_any W6 _ g gt gr v T (-1) n (GtA.flip s p.2.toNat) hG6.ga HKT.out.2 (by omega) HKT.out.1.R (by omega) (by omega) (HT.out.1.be hG6.be)
        obtain ⟨Z, hZ⟩ : ∃ Z, GtA.flip s p.2.toNat = Z := ⟨_, rfl⟩
        rw [hZ] at kt hbad hsame
        rw [hZ]
        obtain ⟨E, hE⟩ : ∃ E, tkE T.R (-1) Z = E := ⟨_, rfl⟩
        rw [hE] at hbad
        have HG6 := Lib.hid hG6
        have kt2 : Calls Tryz.prog 11 #[.pointer (some ⟨g, 0, none⟩), .string Z] W6 fun e w' => ∃ va', e = .returned (.tuple #[.bool false, .int .i64 E]) ∧ Gt w w' V.heap.size g gt gr va' T n w.heap.size (w.heap.size + 1) W2.heap.size #[.slice la ln lc, .slice ta tn tc] tv ((List.range i).map tk) := kt.mono (fun e w' h => by
          obtain ⟨v8, h8, h9⟩ := h.ga
          have he := h.e
          rw [hE, hsame.2] at he
          rw [hsame.1, show tkN T.R (-1) Z n = n by unfold tkN; rw [hE, if_neg hbad]] at h8
          exact ⟨v8, he, HG6.out.take HBE.out.size h8 h.k⟩)
        have t4 : (E == 0) = false := beq_eq_false_iff_ne.2 hbad
        clear kt hZ hE hsame hfs hfd hfi hG6 HG6
        go_wp2_with fail
        (with_reducible refine (kt2).mono ?_); rintro e6 W7 ⟨va', rfl, hG7⟩
        clear kt2
        have HK2 := Lib.hid (HKT.out.congr (Q := fun j => j < i + 1 ∧ tk j = true) (fun j => ⟨fun h => ⟨by omega, h.2⟩, fun h => ⟨by have := tk_ne HTI.out h.2; omega, h.2⟩⟩))
        have HT2 := Lib.hid (show T.st.length ≤ 2 * (i + 1) ∧ n ≤ i + 1 from ⟨by omega, by have := HTN.out.2; omega⟩)
        have d0 := Blk.cell hG7.bo 0 (v := tv) rfl
        have f0 := Blk.frozen hG7.bo 0
        have hGA := hG7.below ((Below.refl _ W7).alloc (Nat.le_refl _) (.cells #[.bool false] 4))
        have hov := hGA.ow
        rw [List.length_map, List.length_range] at hov
        have HGA9 := Lib.hid hGA
        have hsz9 := hGA.be.size
        have hnw := Blk.new W7 4 #[.bool false]
        clear hGA
        go_wp2_with (at_builtin; refine ApG.wpList_appG rfl _ _ rfl elemB rfl hov rfl rfl (blk_news hnw) (by simp [Value.oneCell']) (by omega) (by unfold maxLen; omega) hsz9 ?_)
        intro v9 W8 hown9 hg9 hat9
        obtain ⟨av, cv, hvf⟩ := own_form hown9
        subst hvf
        have HG8 := Lib.hid (HGA9.out.app (by rw [List.length_map, List.length_range]; exact hown9) hg9)
        have HSN := Lib.hid (show (List.range (i + 1)).map tk = (List.range i).map tk ++ [false] from by rw [List.range_succ, List.map_append]; simp only [List.map_cons, List.map_nil]; rw [HTI.out])
        have hb8 : Blk W8 W2.heap.size 52 #[tv, .slice none 0 0, .int .i64 0, .int .i64 0, .bool true] := (hg9.block W2.heap.size HGA9.out.bo.lt (fun e => absurd ((tyb_blk HGA9.out.bo).uniq (tyb_own HGA9.out.ow e.symm)) (by decide))).trans HGA9.out.bo
        have d0' := Blk.cell hb8 0 (v := tv) rfl
        have f0' := Blk.frozen hb8 0
        clear hov hnw hown9 hg9 hat9 d0 f0 hb8
        go_wp2_with fail
        go_roundw
        case rel => exact ⟨i + 1, n, va', T, _, by omega, by go_num, by go_num, by rw [HSN.out]; exact HG8.out, HK2, HT2⟩
        case measure => simp [intOf] <;> omega
      | none =>
        rw [hfd] at HBR HTE
        have hq1 : s = BS := HBR.out.1.symm
        have hq2 : (!decide ((i : Int) ∈ lost)) = BI := HBR.out.2.symm
        subst hq1 hq2
        by_cases hlo : (i : Int) ∈ lost
        · have HTI := Lib.hid (show tk i = false by rw [HTE.out, decide_eq_true hlo]; rfl)
          rw [decide_eq_true hlo]
          have HK2 := Lib.hid (HKT.out.congr (Q := fun j => j < i + 1 ∧ tk j = true) (fun j => ⟨fun h => ⟨by omega, h.2⟩, fun h => ⟨by have := tk_ne HTI.out h.2; omega, h.2⟩⟩))
          have HT2 := Lib.hid (show T.st.length ≤ 2 * (i + 1) ∧ n ≤ i + 1 from ⟨by omega, by have := HTN.out.2; omega⟩)
          clear hfd hlo
          have d0 := Blk.cell hG6.bo 0 (v := tv) rfl
          have f0 := Blk.frozen hG6.bo 0
          have hGA := hG6.below ((Below.refl _ W6).alloc (Nat.le_refl _) (.cells #[.bool false] 4))
          have hov := hGA.ow
          rw [List.length_map, List.length_range] at hov
          have HGA9 := Lib.hid hGA
          have hsz9 := hGA.be.size
          have hnw := Blk.new W6 4 #[.bool false]
          clear hGA
          go_wp2_with (at_builtin; refine ApG.wpList_appG rfl _ _ rfl elemB rfl hov rfl rfl (blk_news hnw) (by simp [Value.oneCell']) (by omega) (by unfold maxLen; omega) hsz9 ?_)
          intro v9 W8 hown9 hg9 hat9
          obtain ⟨av, cv, hvf⟩ := own_form hown9
          subst hvf
          have HG8 := Lib.hid (HGA9.out.app (by rw [List.length_map, List.length_range]; exact hown9) hg9)
          have HSN := Lib.hid (show (List.range (i + 1)).map tk = (List.range i).map tk ++ [false] from by rw [List.range_succ, List.map_append]; simp only [List.map_cons, List.map_nil]; rw [HTI.out])
          have hb8 : Blk W8 W2.heap.size 52 #[tv, .slice none 0 0, .int .i64 0, .int .i64 0, .bool true] := (hg9.block W2.heap.size HGA9.out.bo.lt (fun e => absurd ((tyb_blk HGA9.out.bo).uniq (tyb_own HGA9.out.ow e.symm)) (by decide))).trans HGA9.out.bo
          have d0' := Blk.cell hb8 0 (v := tv) rfl
          have f0' := Blk.frozen hb8 0
          clear hov hnw hown9 hg9 hat9 d0 f0 hb8
          go_wp2_with fail
          go_roundw
          case rel => exact ⟨i + 1, n, v, T, _, by omega, by go_num, by go_num, by rw [HSN.out]; exact HG8.out, HK2, HT2⟩
          case measure => simp [intOf] <;> omega
        · have HTI := Lib.hid (show tk i = true by rw [HTE.out, decide_eq_false hlo]; rfl)
          rw [decide_eq_false hlo]
          have kt := take_any W6 _ g gt gr v T (-1) n s hG6.ga HKT.out.2 (by omega) HKT.out.1.R (by omega) (by omega) (HT.out.1.be hG6.be)
          obtain ⟨k1, k2, k3⟩ := kns_step HFS.out HKT.out (by omega) HHS.out
          have HSX := Lib.hid (tk_ok HKT.out.2 (by omega) (-1) s).2.1
          have HR := Lib.hid HKT.out.1.R
          have HG6 := Lib.hid hG6
          have HNM := Lib.hid (show F.L.length + (64 - F.K) = N from by rw [← mkL_len F 7]; exact HNN.out)
          rw [HNM.out] at k2
          obtain ⟨FF, hFF⟩ : ∃ z, decide (i + 1 = N) = z := ⟨_, rfl⟩
          rw [hFF] at k2
          have kt2 : Calls Tryz.prog 11 #[.pointer (some ⟨g, 0, none⟩), .string s] W6 fun e w' => ∃ va', e = .returned (.tuple #[.bool FF, .int .i64 0]) ∧ Gt w w' V.heap.size g gt gr va' (tkT T (-1) s) (n + 1) w.heap.size (w.heap.size + 1) W2.heap.size #[.slice la ln lc, .slice ta tn tc] tv ((List.range i).map tk) := kt.mono (fun e w' h => by
            obtain ⟨v8, h8, h9⟩ := h.ga
            have he := h.e
            rw [HR.out] at he h8
            rw [k1, k2] at he
            rw [show tkN 256 (-1) s n = n + 1 by unfold tkN; rw [k1, if_pos rfl]] at h8
            exact ⟨v8, he, HG6.out.take HBE.out.size h8 h.k⟩)
          have HK2 := Lib.hid (k3.congr (Q := fun j => j < i + 1 ∧ tk j = true) (fun j => ⟨fun h => h.elim (fun h => ⟨by omega, h.2⟩) (fun e => ⟨by omega, e ▸ HTI.out⟩), fun h => by
            by_cases e : j = i
            · exact Or.inr e
            · exact Or.inl ⟨by omega, h.2⟩⟩))
          have HT2 := Lib.hid (show (tkT T (-1) s).st.length ≤ 2 * (i + 1) ∧ n + 1 ≤ i + 1 from ⟨by have := HSX.out; omega, by have := HTN.out.2; omega⟩)
          have t5 : ((i : Int) == (N : Int) - 1) = FF := by
            rw [← hFF]
            by_cases e : i + 1 = N
            · rw [decide_eq_true e]; exact beq_iff_eq.2 (by omega)
            · rw [decide_eq_false e]; exact beq_eq_false_iff_ne.2 (by omega)
          have t6 : (s.toList == s.toList) = true := beq_self_eq_true _
          have t6' : (s.toList != s.toList) = false := by simp
          clear kt hfd hlo k1 k2 k3 hG6 HSX hFF
          go_wp2_with fail
          (with_reducible refine (kt2).mono ?_); rintro e6 W7 ⟨va', rfl, hG7⟩
          clear kt2
          obtain ⟨b0, o0, hbo, hlt, hc⟩ := (HM.out.below (Nat.le_refl _) hG7.be) i s HHS.out
          injection hbo with hbo
          injection hbo with e1 e2
          subst e1 e2
          have hc0 : W7.cell? ⟨mb, mo + i, none⟩ = some (.string s) := hc 0 _ rfl
          clear hlt hc
          cases FF with
          | true =>
            have d0 := Blk.cell hG7.bo 0 (v := tv) rfl
            have f0 := Blk.frozen hG7.bo 0
            have hGA := hG7.below ((Below.refl _ W7).alloc (Nat.le_refl _) (.cells #[.bool true] 4))
            have hov := hGA.ow
            rw [List.length_map, List.length_range] at hov
            have HGA9 := Lib.hid hGA
            have hsz9 := hGA.be.size
            have hnw := Blk.new W7 4 #[.bool true]
            clear hGA
            go_wp2_with (at_builtin; refine ApG.wpList_appG rfl _ _ rfl elemB rfl hov rfl rfl (blk_news hnw) (by simp [Value.oneCell']) (by omega) (by unfold maxLen; omega) hsz9 ?_)
            intro v9 W8 hown9 hg9 hat9
            obtain ⟨av, cv, hvf⟩ := own_form hown9
            subst hvf
            have HG8 := Lib.hid (HGA9.out.app (by rw [List.length_map, List.length_range]; exact hown9) hg9)
            have HSN := Lib.hid (show (List.range (i + 1)).map tk = (List.range i).map tk ++ [true] from by rw [List.range_succ, List.map_append]; simp only [List.map_cons, List.map_nil]; rw [HTI.out])
            have hb8 : Blk W8 W2.heap.size 52 #[tv, .slice none 0 0, .int .i64 0, .int .i64 0, .bool true] := (hg9.block W2.heap.size HGA9.out.bo.lt (fun e => absurd ((tyb_blk HGA9.out.bo).uniq (tyb_own HGA9.out.ow e.symm)) (by decide))).trans HGA9.out.bo
            have d0' := Blk.cell hb8 0 (v := tv) rfl
            have f0' := Blk.frozen hb8 0
            clear hov hnw hown9 hg9 hat9 d0 f0 hb8
            go_wp2_with fail
            go_roundw
            case rel => exact ⟨i + 1, (n + 1), va', (tkT T (-1) s), _, by omega, by go_num, by go_num, by rw [HSN.out]; exact HG8.out, HK2, HT2⟩
            case measure => simp [intOf] <;> omega
          | false =>
            have d0 := Blk.cell hG7.bo 0 (v := tv) rfl
            have f0 := Blk.frozen hG7.bo 0
            have hGA := hG7.below ((Below.refl _ W7).alloc (Nat.le_refl _) (.cells #[.bool true] 4))
            have hov := hGA.ow
            rw [List.length_map, List.length_range] at hov
            have HGA9 := Lib.hid hGA
            have hsz9 := hGA.be.size
            have hnw := Blk.new W7 4 #[.bool true]
            clear hGA
            go_wp2_with (at_builtin; refine ApG.wpList_appG rfl _ _ rfl elemB rfl hov rfl rfl (blk_news hnw) (by simp [Value.oneCell']) (by omega) (by unfold maxLen; omega) hsz9 ?_)
            intro v9 W8 hown9 hg9 hat9
            obtain ⟨av, cv, hvf⟩ := own_form hown9
            subst hvf
            have HG8 := Lib.hid (HGA9.out.app (by rw [List.length_map, List.length_range]; exact hown9) hg9)
            have HSN := Lib.hid (show (List.range (i + 1)).map tk = (List.range i).map tk ++ [true] from by rw [List.range_succ, List.map_append]; simp only [List.map_cons, List.map_nil]; rw [HTI.out])
            have hb8 : Blk W8 W2.heap.size 52 #[tv, .slice none 0 0, .int .i64 0, .int .i64 0, .bool true] := (hg9.block W2.heap.size HGA9.out.bo.lt (fun e => absurd ((tyb_blk HGA9.out.bo).uniq (tyb_own HGA9.out.ow e.symm)) (by decide))).trans HGA9.out.bo
            have d0' := Blk.cell hb8 0 (v := tv) rfl
            have f0' := Blk.frozen hb8 0
            clear hov hnw hown9 hg9 hat9 d0 f0 hb8
            go_wp2_with fail
            go_roundw
            case rel => exact ⟨i + 1, (n + 1), va', (tkT T (-1) s), _, by omega, by go_num, by go_num, by rw [HSN.out]; exact HG8.out, HK2, HT2⟩
            case measure => simp [intOf] <;> omega
    · obtain rfl : i = N := by omega
      have t3 : decide ((i : Int) < (i : Int)) = false := decide_eq_false (by omega)
      have t3' : decide (i < i) = false := decide_eq_false (by omega)
      have HKT3 := Lib.hid (HKT.out.congr (Q := fun j => (decide (j < i) && tk j) = true) (fun j => by rw [Bool.and_eq_true, decide_eq_true_eq]))
      have HMP := Lib.hid (show (List.range i).map tk = (List.range i).map (fun j => decide (j < i) && tk j) from List.map_congr_left (fun j hj => by rw [decide_eq_true (List.mem_range.1 hj), Bool.true_and]))
      have hTR := HKT.out.1.R
      have hHB := HBE.out.size
      obtain ⟨bs, hbs⟩ : ∃ bs, (List.range i).map tk = bs := ⟨_, rfl⟩
      have HBL := Lib.hid (show bs.length = i by rw [← hbs]; simp)
      rw [hbs] at hG HMP
      have how0 := hG.ow
      obtain ⟨tva, tvc, hvf⟩ := own_form how0
      subst hvf
      have d0 := Blk.cell (hG.bo) 0 (v := .slice tva bs.length tvc) rfl
      have d1 := Blk.cell (hG.bo) 1 (v := .slice none 0 0) rfl
      have d2 := Blk.cell (hG.bo) 2 (v := .int .i64 0) rfl
      have d3 := Blk.cell (hG.bo) 3 (v := .int .i64 0) rfl
      have d4 := Blk.cell (hG.bo) 4 (v := .bool true) rfl
      have f0 := Blk.frozen (hG.bo) 0
      have f1 := Blk.frozen (hG.bo) 1
      have f2 := Blk.frozen (hG.bo) 2
      have f3 := Blk.frozen (hG.bo) 3
      have f4 := Blk.frozen (hG.bo) 4
      have kta := taken_any hG.ga
      have kS : Kept (fun j => j = W2.heap.size) wr (wr.setCell ⟨W2.heap.size, 4, none⟩ (.bool true)) := kept_set rfl
      have HGA := Lib.hid (ga_kept hG.ga kS (fun j hj e => ga_off hG.ga (tyb_blk hG.bo) (by decide) (by decide) (by decide) (by decide) (e ▸ hj)))
      have HBO := Lib.hid (show Blk (wr.setCell ⟨W2.heap.size, 4, none⟩ (.bool true)) W2.heap.size 52 #[.slice tva bs.length tvc, .slice none 0 0, .int .i64 0, .int .i64 0, .bool true] from Blk.set_ hG.bo 4 (.bool true))
      have HOW := Lib.hid (FrA.own_kept how0 kS (fun j hj e => absurd ((tyb_own how0 hj).uniq (e ▸ tyb_blk hG.bo)) (by decide)))
      have HBR := Lib.hid (show Blk (wr.setCell ⟨W2.heap.size, 4, none⟩ (.bool true)) (w.heap.size + 1) 52 #[.slice none 0 0, .slice none 0 0, .int .i64 0, .int .i64 0, .bool false] from (kS.block (w.heap.size + 1) hG.br.lt hG.ne).trans hG.br)
      have HBEA := Lib.hid (hG.be.trans (kS.be hG.be.size (fun j e => e ▸ hG.hb)))
      have HNE := Lib.hid hG.ne
      have HGB := Lib.hid hG.hb
      obtain ⟨WA, hWA⟩ : ∃ WA, wr.setCell ⟨W2.heap.size, 4, none⟩ (.bool true) = WA := ⟨_, rfl⟩
      rw [hWA] at HGA HBO HOW HBR HBEA
      have ke := end_any WA _ g gt gr v T (rowC F) (-1) n HGA.out HKT.out.2 (fun r hr => HKT.out.row HFS.out r hr)
      clear hG how0 kS hbs
      go_wp2_with fail
      (with_reducible refine (kta).mono ?_); rintro e7 W7 ⟨rfl, rfl⟩
      clear kta
      go_wp2_with fail
      clear d0 d1 d2 d3 d4 f0 f1 f2 f3 f4 hWA
      (with_reducible refine (ke).mono ?_); rintro e7 WB ⟨⟨ov, rfl, hov⟩, hgaB, hkB⟩
      rw [hTR] at hov
      obtain ⟨ova, ovc, hvf⟩ := own_form hov
      subst hvf
      obtain ⟨m1, hm1⟩ : ∃ m, cntM T T.R = m := ⟨_, rfl⟩
      obtain ⟨m2, hm2⟩ : ∃ m, cntF T T.R = m := ⟨_, rfl⟩
      have HMM := Lib.hid (And.intro hm1 hm2)
      rw [hm1, hm2]
      have off := fun {j : Nat} {t : TypeId} (hj : Tyb WA j t) => ga_off HGA.out hj
      have hboB : Blk WB W2.heap.size 52 #[.slice tva bs.length tvc, .slice none 0 0, .int .i64 0, .int .i64 0, .bool true] := (hkB.block W2.heap.size HBO.out.lt (off (tyb_blk HBO.out) (by decide) (by decide) (by decide) (by decide))).trans HBO.out
      have hbrB : Blk WB (w.heap.size + 1) 52 #[.slice none 0 0, .slice none 0 0, .int .i64 0, .int .i64 0, .bool false] := (hkB.block (w.heap.size + 1) HBR.out.lt (off (tyb_blk HBR.out) (by decide) (by decide) (by decide) (by decide))).trans HBR.out
      have howB := FrA.own_kept HOW.out hkB (fun j hj => off (tyb_own HOW.out hj) (by decide) (by decide) (by decide) (by decide))
      have hbeB := HBEA.out.trans (hkB.be HBEA.out.size (fun j hj => Nat.le_trans hHB (HGA.out.ge j hj).1))
      have hovB := ApG.own_base hov HBEA.out.size
      have b0 : Blk WB W2.heap.size 52 #[.slice tva bs.length tvc, .slice none 0 0, .int .i64 0, .int .i64 0, .bool true] := hboB
      have d1 := Blk.cell b0 1 (v := .slice none 0 0) rfl
      have f1 := Blk.frozen b0 1
      obtain ⟨O, hO⟩ : ∃ O, (outAt (mdS T (rowC F) 256) 0).length = O := ⟨_, rfl⟩
      have HOO := Lib.hid hO
      rw [hO]
      rw [hO] at hov hovB
      have b1 : Blk _ W2.heap.size 52 #[.slice tva bs.length tvc, .slice ova O ovc, .int .i64 0, .int .i64 0, .bool true] := Blk.set_ b0 1 (.slice ova O ovc)
      have d2 := Blk.cell b1 2 (v := .int .i64 0) rfl
      have f2 := Blk.frozen b1 2
      have b2 : Blk _ W2.heap.size 52 #[.slice tva bs.length tvc, .slice ova O ovc, .int .i64 (m1 : Int), .int .i64 0, .bool true] := Blk.set_ b1 2 (.int .i64 (m1 : Int))
      have d3 := Blk.cell b2 3 (v := .int .i64 0) rfl
      have f3 := Blk.frozen b2 3
      have b3 : Blk _ W2.heap.size 52 #[.slice tva bs.length tvc, .slice ova O ovc, .int .i64 (m1 : Int), .int .i64 (m2 : Int), .bool true] := Blk.set_ b2 3 (.int .i64 (m2 : Int))
      have d4 := Blk.cell b3 4 (v := .bool true) rfl
      have f4 := Blk.frozen b3 4
      have k3 : Kept (fun j => j = W2.heap.size) WB (((WB.setCell ⟨W2.heap.size, 1, none⟩ (.slice ova O ovc)).setCell ⟨W2.heap.size, 2, none⟩ (.int .i64 (m1 : Int))).setCell ⟨W2.heap.size, 3, none⟩ (.int .i64 (m2 : Int))) :=
        ((kept_set (F := fun j => j = W2.heap.size) (p := ⟨W2.heap.size, 1, none⟩) (u := .slice ova O ovc) rfl).trans (kept_set (F := fun j => j = W2.heap.size) (p := ⟨W2.heap.size, 2, none⟩) (u := .int .i64 (m1 : Int)) rfl) (fun _ _ e => e)).trans (kept_set (F := fun j => j = W2.heap.size) (p := ⟨W2.heap.size, 3, none⟩) (u := .int .i64 (m2 : Int)) rfl) (fun _ _ e => e)
      have kta := taken_any (ga_kept hgaB k3 (fun j hj e => ga_off hgaB (tyb_blk b0) (by decide) (by decide) (by decide) (by decide) (e ▸ hj)))
      have HB3 := Lib.hid b3
      have hbrC := (k3.block (w.heap.size + 1) hbrB.lt HNE.out).trans hbrB
      have HOWC := Lib.hid (FrA.own_kept howB k3 (fun j hj e => absurd ((tyb_own howB hj).uniq (e ▸ tyb_blk b0)) (by decide)))
      have HOVC := Lib.hid (FrA.own_kept hovB k3 (fun j hj e => absurd ((tyb_own hovB hj).uniq (e ▸ tyb_blk b0)) (by decide)))
      have HBEC := Lib.hid (hbeB.trans (k3.be hbeB.size (fun j e => e ▸ HGB.out)))
      obtain ⟨WC, hWC⟩ : ∃ WC, ((WB.setCell ⟨W2.heap.size, 1, none⟩ (.slice ova O ovc)).setCell ⟨W2.heap.size, 2, none⟩ (.int .i64 (m1 : Int))).setCell ⟨W2.heap.size, 3, none⟩ (.int .i64 (m2 : Int)) = WC := ⟨_, rfl⟩
      rw [hWC] at HB3 hbrC HOWC HOVC HBEC kta d4 f4
      have HBRC := Lib.hid (show Blk WC (w.heap.size + 1) 52 #[.slice none 0 0, .slice none 0 0, .int .i64 0, .int .i64 0, .bool false] from hbrC)
      clear ke hkB hgaB hov hovB howB hboB hbrB hbeB b0 b1 b2 b3 k3 hm1 hm2 hO off hbrC
      go_wp2_with fail
      (with_reducible refine (kta).mono ?_); rintro e7 W7 ⟨rfl, rfl⟩
      clear kta d1 d2 d3 f1 f2 f3 hWC
      have b4 : Blk (WC.setCell ⟨W2.heap.size, 4, none⟩ (.bool true)) W2.heap.size 52 #[.slice tva bs.length tvc, .slice ova O ovc, .int .i64 (m1 : Int), .int .i64 (m2 : Int), .bool true] := Blk.set_ HB3.out 4 (.bool true)
      have k4 : Kept (fun j => j = W2.heap.size) WC (WC.setCell ⟨W2.heap.size, 4, none⟩ (.bool true)) := kept_set rfl
      have z0 := Blk.cell (b4) 0 (v := .slice tva bs.length tvc) rfl
      have z1 := Blk.cell (b4) 1 (v := .slice ova O ovc) rfl
      have z2 := Blk.cell (b4) 2 (v := .int .i64 (m1 : Int)) rfl
      have z3 := Blk.cell (b4) 3 (v := .int .i64 (m2 : Int)) rfl
      have z4 := Blk.cell (b4) 4 (v := .bool true) rfl
      have hbr4 : Blk (WC.setCell ⟨W2.heap.size, 4, none⟩ (.bool true)) (w.heap.size + 1) 52 #[.slice none 0 0, .slice none 0 0, .int .i64 0, .int .i64 0, .bool false] := (k4.block (w.heap.size + 1) HBRC.out.lt HNE.out).trans HBRC.out
      have HOW4 := Lib.hid (FrA.own_kept HOWC.out k4 (fun j hj e => absurd ((tyb_own HOWC.out hj).uniq (e ▸ tyb_blk HB3.out)) (by decide)))
      have HOV4 := Lib.hid (FrA.own_kept HOVC.out k4 (fun j hj e => absurd ((tyb_own HOVC.out hj).uniq (e ▸ tyb_blk HB3.out)) (by decide)))
      have HBE4 := Lib.hid (HBEC.out.trans (k4.be HBEC.out.size (fun j e => e ▸ HGB.out)))
      have HBR4 := Lib.hid hbr4
      clear b4 k4 hbr4
      go_wp2_with (refine wpList_store_blk (g := (w.heap.size + 1)) (T := 52) (cs' := #[.slice tva bs.length tvc, .slice ova O ovc, .int .i64 (m1 : Int), .int .i64 (m2 : Int), .bool true]) rfl 52 _ _ rfl rfl rfl (HBR4.out) (by kernel_rfl) (by kernel_rfl) (by kernel_rfl) (by kernel_rfl) ?_; intro W9 hW9 hg9 hz9)
      have hbe9 := HBE4.out.trans (below_of_only hg9 HBE4.out.size (fun k hk => by injection hk with hk; omega))
      have how9 := own_other (v1 := .slice (some ⟨w.heap.size + 1, 0, none⟩) 0 0) HOW4.out hg9 (fun r hr e => by injection hr with hr; subst hr; exact absurd ((tyb_own HOW4.out e).uniq (tyb_blk HBR4.out)) (by decide))
      have hov9 := own_other (v1 := .slice (some ⟨w.heap.size + 1, 0, none⟩) 0 0) HOV4.out hg9 (fun r hr e => by injection hr with hr; subst hr; exact absurd ((tyb_own HOV4.out e).uniq (tyb_blk HBR4.out)) (by decide))
      exact bodyPost_ret (v := .agg #[.slice tva bs.length tvc, .slice ova O ovc, .int .i64 (m1 : Int), .int .i64 (m2 : Int), .bool true]) (results_cell_row rfl _ _ (w.heap.size + 1) 52 _ (0, 0) _ rfl hW9 Tryz.underlying52 rfl (by kernel_rfl)) rfl (by
        rw [HQ.out]
        have h1 := HMM.out.1
        have h2 := HMM.out.2
        rw [hTR] at h1 h2
        exact ⟨⟨T, _, _, HKT3.out, by rw [h1, h2], by rw [← HMP.out, ← HBL.out]; exact how9, by rw [HOO.out]; exact hov9⟩, hbe9⟩)
end Go.Proofs.YthgcmlhmhojjhaaGreatDoor.GtB
