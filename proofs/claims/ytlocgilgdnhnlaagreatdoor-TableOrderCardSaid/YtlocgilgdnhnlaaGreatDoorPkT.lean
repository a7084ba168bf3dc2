/- Texts that belong together: TmA, TmB, Law, Opn, TiOpn. -/
import Derived.Test.YtlocgilgdnhnlaaGreatDoorPkS
import Derived.Test.YtlocgilgdnhnlaaGreatDoorRows
import Derived.WalkKit
import Derived.ProofKit
import Derived.OpenShut
import Derived.Handed
import Derived.Deep.Slices
import Derived.Deep.Fields
import Derived.ChangeSame
import Derived.Lib.SmallJoins
import Derived.ChangeSlices
/- times: what is wrong with times; their four bytes. -/
namespace Go.Proofs.YtlocgilgdnhnlaaGreatDoor.TmA
open Go Go.RowKit Go.Proofs.YtlocgilgdnhnlaaGreatDoor.Q Go.Proofs.YtlocgilgdnhnlaaGreatDoor.Mem Go.Proofs.YtlocgilgdnhnlaaGreatDoor.Rg Go.Proofs.YtlocgilgdnhnlaaGreatDoor.Ap Go.Proofs.YtlocgilgdnhnlaaGreatDoor.St Go.Proofs.YtlocgilgdnhnlaaGreatDoor.BiP Go.Proofs.YtlocgilgdnhnlaaGreatDoor.BiA Go.Proofs.YtlocgilgdnhnlaaGreatDoor.BiW Go.Proofs.YtlocgilgdnhnlaaGreatDoor.BiF Go.Proofs.YtlocgilgdnhnlaaGreatDoor.BiG Go.Proofs.YtlocgilgdnhnlaaGreatDoor.BiH Go.Proofs.YtlocgilgdnhnlaaGreatDoor.SeA Go.Proofs.YtlocgilgdnhnlaaGreatDoor.SeG Go.Proofs.YtlocgilgdnhnlaaGreatDoor.SeI Go.Proofs.YtlocgilgdnhnlaaGreatDoor.SeJ

/-- times -/
structure Ti where
  delta : Int
  table : Bool
  frame : Bool
  at_ : Int
def Ti.vals (t : Ti) : Array Value := #[.int .i64 t.delta, .bool t.table, .bool t.frame, .int .i64 t.at_]
def Ti.ok (t : Ti) : Prop := (0 ≤ t.delta ∧ t.delta ≤ 4095) ∧ (0 ≤ t.at_ ∧ t.at_ ≤ 262143)
instance (t : Ti) : Decidable t.ok := by unfold Ti.ok; infer_instance
def Ti.chk (t : Ti) : Int := if t.ok then 0 else 15
def zeroT : Ti := ⟨0, false, false, 0⟩
/-- their four bytes -/
def tmL (t : Ti) : List UInt8 := [UInt8.ofNat (t.delta.toNat / 16), UInt8.ofNat (t.delta.toNat % 16 * 16 + nb t.table * 8 + nb t.frame * 4 + t.at_.toNat / 65536), UInt8.ofNat (t.at_.toNat / 256 % 256), UInt8.ofNat (t.at_.toNat % 256)]
def encT (t : Ti) : ByteArray := if t.chk = 0 then str (tmL t) else nob
theorem tm_len (t : Ti) : (tmL t).length = 4 := rfl
theorem ti_iff {a b : Ti} : a = b ↔ a.delta = b.delta ∧ a.table = b.table ∧ a.frame = b.frame ∧ a.at_ = b.at_ := ⟨fun h => by subst h; simp, fun ⟨h1, h2, h3, h4⟩ => by cases a; cases b; simp_all⟩
instance : DecidableEq Ti := fun _ _ => decidable_of_iff _ ti_iff.symm
theorem tchk_ok {t : Ti} (h : t.ok) : t.chk = 0 := by unfold Ti.chk; rw [if_pos h]
theorem tchk_no {t : Ti} (h : ¬ t.ok) : t.chk = 15 := by unfold Ti.chk; rw [if_neg h]
theorem tchk_zero {t : Ti} (h : t.chk = 0) : t.ok := by
  unfold Ti.chk at h
  split at h
  · assumption
  · omega
set_option maxRecDepth 100000
theorem tm_bits (d a : Nat) (x y : Bool) (ha : a ≤ 262143) : pk (((bitsOf d 12 ++ bitsOf (nb x) 1) ++ bitsOf (nb y) 1) ++ bitsOf a 18) = [UInt8.ofNat (d / 16), UInt8.ofNat (d % 16 * 16 + nb x * 8 + nb y * 4 + a / 65536), UInt8.ofNat (a / 256 % 256), UInt8.ofNat (a % 256)] := by
  have hx := nb_le x
  have hy := nb_le y
  generalize nb x = p at *
  generalize nb y = q at *
  have e1 : bitsOf d 12 = bitsOf (d / 16) 8 ++ bitsOf (d % 16) 4 := by
    have h := bitsOf_join (d / 16) (d % 16) 8 4 (by omega)
    rw [show d / 16 * 2 ^ 4 + d % 16 = d by omega] at h
    exact h.symm
  have e2 : bitsOf a 18 = bitsOf (a / 65536) 2 ++ (bitsOf (a / 256 % 256) 8 ++ bitsOf (a % 256) 8) := by
    have h := bitsOf_join (a / 65536) (a % 65536) 2 16 (by omega)
    rw [show a / 65536 * 2 ^ 16 + a % 65536 = a by omega] at h
    rw [← show bitsOf a 18 = bitsOf a (2 + 16) from rfl] at h
    rw [← h, bitsOf_two, show a % 65536 / 256 = a / 256 % 256 by omega, show a % 65536 % 256 = a % 256 by omega]
  have e3 : bitsOf (d % 16) 4 ++ (bitsOf p 1 ++ (bitsOf q 1 ++ bitsOf (a / 65536) 2)) = bitsOf (d % 16 * 16 + p * 8 + q * 4 + a / 65536) 8 := by
    rw [bitsOf_join q (a / 65536) 1 2 (by omega), bitsOf_join p _ 1 (1 + 2) (by omega), bitsOf_join (d % 16) _ 4 (1 + (1 + 2)) (by omega)]
    congr 1
    omega
  rw [e1, e2]
  have e4 : ((bitsOf (d / 16) 8 ++ bitsOf (d % 16) 4 ++ bitsOf p 1) ++ bitsOf q 1) ++ (bitsOf (a / 65536) 2 ++ (bitsOf (a / 256 % 256) 8 ++ bitsOf (a % 256) 8)) =
      bitsOf (d / 16) 8 ++ (bitsOf (d % 16 * 16 + p * 8 + q * 4 + a / 65536) 8 ++ (bitsOf (a / 256 % 256) 8 ++ (bitsOf (a % 256) 8 ++ []))) := by
    rw [← e3]; simp [List.append_assoc]
  rw [e4, pk_cons, pk_cons, pk_cons, pk_cons, pk_nil]
end Go.Proofs.YtlocgilgdnhnlaaGreatDoor.TmA

/- times: Decode, of four bytes. -/
namespace Go.Proofs.YtlocgilgdnhnlaaGreatDoor.TmB
open Go Go.RowKit Go.Proofs.YtlocgilgdnhnlaaGreatDoor.Q Go.Proofs.YtlocgilgdnhnlaaGreatDoor.Mem Go.Proofs.YtlocgilgdnhnlaaGreatDoor.Rg Go.Proofs.YtlocgilgdnhnlaaGreatDoor.Ap Go.Proofs.YtlocgilgdnhnlaaGreatDoor.St Go.Proofs.YtlocgilgdnhnlaaGreatDoor.BiP Go.Proofs.YtlocgilgdnhnlaaGreatDoor.BiA Go.Proofs.YtlocgilgdnhnlaaGreatDoor.BiG Go.Proofs.YtlocgilgdnhnlaaGreatDoor.BiH Go.Proofs.YtlocgilgdnhnlaaGreatDoor.SeA Go.Proofs.YtlocgilgdnhnlaaGreatDoor.SeG Go.Proofs.YtlocgilgdnhnlaaGreatDoor.SeI Go.Proofs.YtlocgilgdnhnlaaGreatDoor.SeJ Go.Proofs.YtlocgilgdnhnlaaGreatDoor.SeP Go.Proofs.YtlocgilgdnhnlaaGreatDoor.TmA

/-- the times of four bytes -/
def tmD (s : ByteArray) : Ti := ⟨(at0 s 0 * 16 + at0 s 1 / 16 : Nat), decide (at0 s 1 / 8 % 2 = 1), decide (at0 s 1 / 4 % 2 = 1), (at0 s 1 % 4 * 65536 + at0 s 2 * 256 + at0 s 3 : Nat)⟩
theorem tmD_ok (s : ByteArray) : (tmD s).ok := by
  have l0 := at0_lt s 0
  have l1 := at0_lt s 1
  have l2 := at0_lt s 2
  have l3 := at0_lt s 3
  unfold Ti.ok tmD
  dsimp only
  omega
theorem four_bl (s : ByteArray) (h : s.size = 4) : bl s = [UInt8.ofNat (at0 s 0), UInt8.ofNat (at0 s 1), UInt8.ofNat (at0 s 2), UInt8.ofNat (at0 s 3)] := by
  apply List.ext_getElem?
  intro i
  by_cases hi : i < 4
  · rw [bl_at0 s i (by omega)]
    match i, hi with
    | 0, _ | 1, _ | 2, _ | 3, _ => rfl
  · rw [List.getElem?_eq_none (by rw [bl_len]; omega), List.getElem?_eq_none (by simp; omega)]
theorem tmL_tmD (s : ByteArray) (h : s.size = 4) : tmL (tmD s) = bl s := by
  have l0 := at0_lt s 0
  have l1 := at0_lt s 1
  have l2 := at0_lt s 2
  have l3 := at0_lt s 3
  rw [four_bl s h]
  unfold tmL tmD
  dsimp only
  rw [nb_dec, nb_dec, Int.toNat_natCast, Int.toNat_natCast]
  have e1 : (at0 s 0 * 16 + at0 s 1 / 16) / 16 = at0 s 0 := by omega
  have e2 : (at0 s 0 * 16 + at0 s 1 / 16) % 16 * 16 + at0 s 1 / 8 % 2 * 8 + at0 s 1 / 4 % 2 * 4 + (at0 s 1 % 4 * 65536 + at0 s 2 * 256 + at0 s 3) / 65536 = at0 s 1 := by omega
  have e3 : (at0 s 1 % 4 * 65536 + at0 s 2 * 256 + at0 s 3) / 256 % 256 = at0 s 2 := by omega
  have e4 : (at0 s 1 % 4 * 65536 + at0 s 2 * 256 + at0 s 3) % 256 = at0 s 3 := by omega
  rw [e1, e2, e3, e4]
theorem tmD_tmL (t : Ti) (h : t.ok) : tmD (str (tmL t)) = t := by
  have u0 := at0_str (tmL t) 0 _ rfl
  have u1 := at0_str (tmL t) 1 _ rfl
  have u2 := at0_str (tmL t) 2 _ rfl
  have u3 := at0_str (tmL t) 3 _ rfl
  simp only [UInt8.toNat_ofNat'] at u0 u1 u2 u3
  have p := nb_le t.table
  have q := nb_le t.frame
  have db : ∀ b : Bool, decide (nb b = 1) = b := fun b => by cases b <;> rfl
  unfold Ti.ok at h
  unfold tmD
  rw [u0, u1, u2, u3, ti_iff]
  dsimp only
  rw [show (t.delta.toNat % 16 * 16 + nb t.table * 8 + nb t.frame * 4 + t.at_.toNat / 65536) % 2 ^ 8 / 8 % 2 = nb t.table by omega, show (t.delta.toNat % 16 * 16 + nb t.table * 8 + nb t.frame * 4 + t.at_.toNat / 65536) % 2 ^ 8 / 4 % 2 = nb t.frame by omega, db, db]
  refine ⟨by omega, rfl, rfl, by omega⟩
theorem tfields (u : ByteArray) : gb u 0 12 = at0 u 0 * 16 + at0 u 1 / 16 ∧ gb u 12 1 = at0 u 1 / 8 % 2 ∧ gb u 13 1 = at0 u 1 / 4 % 2 ∧ gb u 14 18 = at0 u 1 % 4 * 65536 + at0 u 2 * 256 + at0 u 3 := by
  have l1 := at0_lt u 1
  have g0 := gb_byte u 0
  have g2 := gb_byte u 2
  have g3 := gb_byte u 3
  have a1 := gb_in u 1 0 4 (by omega)
  have a2 := gb_in u 1 4 1 (by omega)
  have a3 := gb_in u 1 5 1 (by omega)
  have a4 := gb_in u 1 6 2 (by omega)
  have h1 := gb_split u 0 8 4
  have h2 := gb_split u 14 2 16
  have h3 := gb_split u 16 8 8
  simp only [Nat.reduceMul, Nat.reduceAdd, Nat.reducePow, Nat.reduceSub] at g0 g2 g3 a1 a2 a3 a4 h1 h2 h3
  refine ⟨?_, ?_, ?_, ?_⟩
  · rw [h1, g0, a1]; omega
  · rw [a2]
  · rw [a3]
  · rw [h2, a4, h3, g2, g3]; omega
set_option maxRecDepth 100000
end Go.Proofs.YtlocgilgdnhnlaaGreatDoor.TmB

/- What is the same in every statement of this seat: a law that answers true and leaves all that was there as it was meets its row. -/
namespace Go.Proofs.YtlocgilgdnhnlaaGreatDoor.Law
open Go.ChangeShapes Go.WideShapes Go.ChangeAt Go.RowKit

theorem own : ownKnob Tryz.prog.godebug = none := by kernel_rfl
theorem laid : laidOutB Tryz.prog = true := by kernel_rfl

section
variable {H : Type} {enc : TypeId × Value → H} {P : Program}

theorem trodAll_length {w : World} {base : Nat} {sp : Nat → Bool} {held : Bool} : ∀ {ts : List TypeId} {vs : List Value} {ds : List (DataW H)} {ps : List MemPlace},
    DataW.TrodAll enc P w base sp held ts vs ds ps → ds.length = ts.length ∧ vs.length = ts.length
  | [], [], [], _, _ => ⟨rfl, rfl⟩
  | _ :: _, _ :: _, _ :: _, _, ⟨_, _, _, h2, _⟩ => by
    have := trodAll_length h2
    simp only [List.length_cons]
    omega
  | [], [], _ :: _, _, h => h.elim
  | [], _ :: _, _, _, h => h.elim
  | _ :: _, [], _, _, h => h.elim
  | _ :: _, _ :: _, [], _, h => h.elim

theorem trodAll_stay (hl : laidOutB P = true) {W W' : World} (hb : Below W.heap.size W W') : ∀ {ts : List TypeId} {vs : List Value} {ds : List (DataW H)} {ps : List MemPlace},
    (∀ t ∈ ts, P.readableRec t = true ∧ t < P.types.size) → DataW.TrodAll enc P W 0 (fun _ => true) true ts vs ds ps → (∀ p ∈ ps, p.block < W.heap.size) →
      DataW.TrodAll enc P W' 0 (fun b => decide (b < W.heap.size)) true ts vs ds ps
  | [], [], [], _, _, h, _ => h
  | t :: _, _ :: _, _ :: _, _, hr, ⟨p, q, h1, h2, e⟩, hlt =>
    ⟨p, q, Below.trod hl (hr t (List.mem_cons.2 (Or.inl rfl))).1 (hr t (List.mem_cons.2 (Or.inl rfl))).2 h1 hb (fun x hx => hlt x (by rw [e]; exact List.mem_append_left _ hx)),
      trodAll_stay hl hb (fun t ht => hr t (List.mem_cons.2 (Or.inr ht))) h2 (fun x hx => hlt x (by rw [e]; exact List.mem_append_right _ hx)), e⟩
  | [], [], _ :: _, _, _, h, _ => h.elim
  | [], _ :: _, _, _, _, h, _ => h.elim
  | _ :: _, [], _, _, _, h, _ => h.elim
  | _ :: _, _ :: _, [], _, _, h, _ => h.elim

theorem post_true (hl : laidOutB P = true) {f : Func} {s : ChangeSpec} {W W' : World} {args : Array Value} {ds gs : List (DataW H)} {before : List MemPlace}
    (hW : DataW.Whole enc P f.params.toList s.vars false W args.toList ds gs before) (hv : s.vars = []) {B : TypeId} (hres : f.resultTypes = #[B]) (hB : P.underlying B = some .bool)
    (hpar : ∀ t ∈ f.params.toList, P.readableRec t = true ∧ t < P.types.size)
    (hs : ∀ xs : List (DataW H), xs.length = f.params.toList.length → s.fn H xs = { results := [.lit (.bool true)], args := xs }) (hb : Below W.heap.size W W') :
    s.post enc P f false true false false W args (.bool true) W' := by
  have hlt : ∀ p ∈ before, p.block < W.heap.size := fun p hp => hW.lt p hp
  have hW0 := hW
  obtain ⟨p, q, hA, hV, rfl, _, _⟩ := hW0
  rw [hv] at hV
  obtain ⟨rfl, rfl⟩ := trodVars_none hV
  have hlen := (trodAll_length hA).1
  have e1 : s.fn H (ds ++ []) = { results := [.lit (.bool true)], args := ds } := by rw [List.append_nil]; exact hs ds hlen
  refine ⟨ds, [], p ++ [], [], p, [], hW, ?_, ?_, ?_, hb.frame _, fun h => by cases h⟩
  · rw [e1, hres]
    exact trodAll_mk1 (shut_bool hB _)
  · rw [e1]
    exact trodAll_stay hl hb hpar hA (fun x hx => hlt x (List.mem_append_left _ hx))
  · rw [e1, hv]
    rfl
end

set_option maxRecDepth 100000 in
/-- a law's row, from its walk -/
theorem lifted {f : FuncId} {fn : Func} {s : ChangeSpec} {conds : List PathCond} (hc : conds = []) (noInit : Tryz.checked.prog.inits.idxOf? f = none) (hfn : Tryz.checked.prog.funcs[f]? = some fn) (hv : s.vars = []) {B : TypeId} (hres : fn.resultTypes = #[B])
    (hB : Tryz.prog.underlying B = some .bool) (hpar : ∀ t ∈ fn.params.toList, Tryz.prog.readableRec t = true ∧ t < Tryz.prog.types.size)
    (hs : ∀ (H : Type) (xs : List (DataW H)), xs.length = fn.params.toList.length → s.fn H xs = { results := [.lit (.bool true)], args := xs })
    (walk : ∀ (H : Type) (enc : TypeId × Value → H) (W : World) (base : Nat) (args : Array Value) (ds : List (DataW H)) (p : List MemPlace),
      (∀ (j : Nat) t v, fn.params[j]? = some t → args[j]? = some v → Value.okWide Tryz.prog W .any base t v) →
      DataW.TrodAll enc Tryz.prog W 0 (fun _ => true) true fn.params.toList args.toList ds p → (∀ x ∈ p, x.block < W.heap.size) →
      Calls Tryz.prog f args W fun e W' => e = .returned (.bool true) ∧ Below W.heap.size W W')
    (os : Os) (started : os.Started) (H : Type) (enc : TypeId × Value → H)
    (witness : ∃ (w : World) (tape : Tape) (i : Input), w.os = os ∧ (w.forCall tape i).Shaped Tryz.checked.prog ∧ i.vars = [] ∧ Input.okWide Tryz.checked.prog (w.forCall tape i) .any w.heap.size f i ∧
      s.pre6 enc Tryz.checked.prog fn conds false (w.forCall tape i).memory i.args ∧ Assume.holds {} Tryz.checked.prog (lone (Frame.enter Tryz.checked.prog f i.args .normal) [] (w.forCall tape i))) :
    ReturnsInHanded {} Tryz.checked os f .any (s.pre6 enc Tryz.prog fn conds false) (s.post enc Tryz.prog fn false true false false) := by
  subst hc
  refine returnsInHanded_of_change (C := Tryz.checked) own started noInit hfn witness ?_
  intro W base args ds gs before hval hW _ _
  have hlt : ∀ x ∈ before, x.block < W.heap.size := fun x hx => hW.lt x hx
  have hW0 := hW
  obtain ⟨p, q, hA, hV, rfl, _, _⟩ := hW0
  refine (walk H enc W base args ds p hval hA (fun x hx => hlt x (List.mem_append_left _ hx))).mono fun e W' ⟨he, hb⟩ => ?_
  subst he
  exact ⟨_, rfl, post_true laid hW hv hres hB hpar (hs H) hb⟩

end Go.Proofs.YtlocgilgdnhnlaaGreatDoor.Law

/- Words to open arguments: a slice that came in is nil, or lies in a block that is there, at a plain place. -/
namespace Go.Proofs.YtlocgilgdnhnlaaGreatDoor.Opn
open Go.ChangeShapes Go.WideShapes Go.RowKit Go.Deep

section
variable {H : Type} {enc : TypeId × Value → H} {P : Program} {w : World} {base : Nat} {spare : Nat → Bool} {held : Bool}

theorem slice_ok {r : Reach} {b0 : Nat} {t e : TypeId} {v : Value} (ht : P.underlying t = some (.slice e)) (h : Value.okWide P w r b0 t v) :
    v = .slice none 0 0 ∨ ∃ b o len cap, v = .slice (some ⟨b, o, none⟩) len cap ∧ b < w.heap.size ∧ len ≤ cap ∧ cap ≤ 9223372036854775807 := by
  simp only [Value.okWide, ht, Cell.okWide] at h
  unfold Cell.ok at h
  rw [ht] at h
  cases v with
  | slice a len cap =>
    cases a with
    | none =>
      match len, cap, h with
      | 0, 0, _ => exact .inl rfl
    | some a =>
      obtain ⟨h1, h2, _, h4, row, cells, h5, _⟩ := h
      obtain ⟨b, o, spot⟩ := a
      simp only at h4 h5
      subst h4
      refine .inr ⟨b, o, len, cap, rfl, ?_, h1, by simp [IntKind.max, IntKind.signed, IntKind.bits] at h2; omega⟩
      unfold World.shape? at h5
      rcases Nat.lt_or_ge b w.heap.size with hlt | hge
      · exact hlt
      · rw [Array.getElem?_eq_none hge] at h5; cases h5
  | _ => exact h.elim

theorem add_at (b o n : Nat) : (⟨b, o, none⟩ : Addr).add n = ⟨b, o + n, none⟩ := by
  unfold Addr.add
  split <;> simp_all

/-- each element's cells, of a slice that is not nil -/
theorem elems {t e : TypeId} {b o len cap : Nat} {d : DataW H} {p : List MemPlace} (ht : P.underlying t = some (.slice e)) (h : DataW.Trod enc P w base spare held t (.slice (some ⟨b, o, none⟩) len cap) d p) :
    ∀ i, i < len → ∃ (cs : List Value) (n : Nat) (x : DataW H × List MemPlace), cs.length = P.cellsOf e ∧ (∀ j v, cs[j]? = some v → w.cell? ⟨b, o + i * P.cellsOf e + j, none⟩ = some v) ∧ DataW.trod enc P w base spare held n e cs = some x := by
  obtain ⟨fuel, h⟩ := h
  rcases open_slice ht h with ⟨h0, _⟩ | ⟨a, l, c, m, n, D, Pl, hcs, _, hl, _, hm, _, hi⟩
  · simp [Value.cells] at h0
  · simp only [Value.cells, List.cons.injEq, Value.slice.injEq, Option.some.injEq, and_true] at hcs
    obtain ⟨rfl, rfl, rfl⟩ := hcs
    intro i hil
    obtain ⟨cs, hc, ht'⟩ := hi i (by split at hm <;> omega)
    obtain ⟨_, hlen, hat⟩ := World.cells?_some hc
    refine ⟨cs, n, _, hlen, fun j v hj => ?_, ht'⟩
    have hjl : j < cs.length := (List.getElem?_eq_some_iff.1 hj).1
    have := hat j (by omega)
    rw [add_at, add_at] at this
    rw [this, hj]
end
end Go.Proofs.YtlocgilgdnhnlaaGreatDoor.Opn

/- Arguments, opened: strings, ints, bytes, times. -/
namespace Go.Proofs.YtlocgilgdnhnlaaGreatDoor.TiOpn
open Go.RowKit Go.Proofs.YtlocgilgdnhnlaaGreatDoor.Q Go.Proofs.YtlocgilgdnhnlaaGreatDoor.Mem Go.Proofs.YtlocgilgdnhnlaaGreatDoor.TmA Go.Proofs.YtlocgilgdnhnlaaGreatDoor.Opn
open Go.ChangeShapes Go.WideShapes Go.ChangeAt Go.Joins

theorem okWide_struct {P : Program} {w : World} {r : Reach} {base : Nat} {t : TypeId} {fs : Array Field} {v : Value} (ht : P.underlying t = some (.struct fs)) (h : Value.okWide P w r base t v) : ∃ cs, v = .agg cs ∧ cs.size = P.cellsOf t := by
  simp only [Value.okWide, ht] at h
  obtain ⟨cs, h1, h2, _⟩ := h
  exact ⟨cs, h1, h2⟩
set_option maxRecDepth 100000
section
variable {H0 : Type} {enc : TypeId × Value → H0} {w : World} {base : Nat} {spare : Nat → Bool} {held : Bool}
theorem str_arg {v : Value} {r : Reach} {b0 : Nat} (h : Value.okWide Tryz.prog w r b0 9 v) : ∃ s : ByteArray, v = .string s := by
  simp only [Value.okWide, Tryz.underlying9, Cell.okWide] at h
  unfold Cell.ok at h
  rw [Tryz.underlying9] at h
  cases v with
  | string s => exact ⟨s, rfl⟩
  | _ => exact h.elim
theorem int_arg {v : Value} {r : Reach} {b0 : Nat} (h : Value.okWide Tryz.prog w r b0 3 v) : ∃ n : Int, v = .int .i64 n := by
  simp only [Value.okWide, Tryz.underlying3, Cell.okWide] at h
  unfold Cell.ok at h
  rw [Tryz.underlying3] at h
  cases v with
  | int k n => obtain ⟨rfl, _⟩ := h; exact ⟨n, rfl⟩
  | _ => exact h.elim
theorem u8_arg {v : Value} {r : Reach} {b0 : Nat} (h : Value.okWide Tryz.prog w r b0 5 v) : ∃ n : Int, v = .int .u8 n ∧ 0 ≤ n ∧ n < 256 := by
  simp only [Value.okWide, Tryz.underlying5, Cell.okWide] at h
  unfold Cell.ok at h
  rw [Tryz.underlying5] at h
  cases v with
  | int k n =>
    obtain ⟨rfl, h1, h2⟩ := h
    refine ⟨n, rfl, ?_, ?_⟩
    · exact h1
    · have : n ≤ 255 := h2
      omega
  | _ => exact h.elim
end
end Go.Proofs.YtlocgilgdnhnlaaGreatDoor.TiOpn
