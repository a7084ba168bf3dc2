import Derived.Test.YtbiiehobfnbloaaGreatDoorLnPkB
import Derived.Outline
import Derived.Laws.StructEq
namespace Go.Proofs.YtbiiehobfnbloaaGreatDoor.SeA
open Go Go.RowKit Q Mem Rg St
structure Sc where
  table : Int
  priv : Bool
  ext : Int
  version : Int
  now : Bool
  number : Int
  last : Int
  body : ByteArray
def Sc.vals (s : Sc) : Array Value := #[.int .i64 s.table, .bool s.priv, .int .i64 s.ext, .int .i64 s.version, .bool s.now, .int .i64 s.number, .int .i64 s.last, .string s.body]
def inR (m x : Int) : Bool := decide (0 ≤ x) && decide (x ≤ m)
theorem inR_true {m x : Int} (h : inR m x = true) : 0 ≤ x ∧ x ≤ m := by simpa [inR] using h
theorem inR_false {m x : Int} (h : inR m x = false) : ¬ (0 ≤ x ∧ x ≤ m) := by
  intro h'
  have : inR m x = true := by simpa [inR] using h'
  rw [h] at this; cases this
def Sc.ok (s : Sc) : Prop := (0 ≤ s.table ∧ s.table ≤ 255) ∧ (0 ≤ s.ext ∧ s.ext ≤ 65535) ∧ (0 ≤ s.version ∧ s.version ≤ 31) ∧ (0 ≤ s.last ∧ s.last ≤ 255) ∧ 0 ≤ s.number ∧ s.number ≤ s.last
instance (s : Sc) : Decidable s.ok := by unfold Sc.ok; infer_instance
def Sc.chk (s : Sc) : Int := if s.ok then (if 4084 < s.body.size then 17 else 0) else 15
theorem chk_no {s : Sc} (h : ¬ s.ok) : s.chk = 15 := by unfold Sc.chk; rw [if_neg h]
theorem chk_full {s : Sc} (h : s.ok) (h2 : 4084 < s.body.size) : s.chk = 17 := by unfold Sc.chk; rw [if_pos h, if_pos h2]
theorem chk_ok {s : Sc} (h : s.ok) (h2 : ¬ 4084 < s.body.size) : s.chk = 0 := by unfold Sc.chk; rw [if_pos h, if_neg h2]
set_option maxRecDepth 100000
theorem within8 (x : Int) (w : World) : Calls Tryz.prog 233 #[.int .i64 x, .int .i64 8] w fun e w' => e = .returned (.bool (inR 255 x)) ∧ w = w' := by
  unfold inR
  by_cases h : 0 ≤ x
  · have t0 : decide (0 ≤ x) = true := by simpa using h
    have HE := Lib.hid (show (decide (0 ≤ x) && decide (x ≤ 255)) = decide (x < 255 + 1) by rw [t0, Bool.true_and, decide_eq_decide]; omega)
    rw [HE.out]
    clear h
    go_enter Tryz.func233, Tryz.ntmps233
    gw0
    go_ret
    exact ⟨rfl, rfl⟩
  · have t0 : decide (0 ≤ x) = false := by simpa using h
    have HE := Lib.hid (show (decide (0 ≤ x) && decide (x ≤ 255)) = false by rw [t0, Bool.false_and])
    rw [HE.out]
    clear h
    go_enter Tryz.func233, Tryz.ntmps233
    gw0
    go_ret
    exact ⟨rfl, rfl⟩
theorem within16 (x : Int) (w : World) : Calls Tryz.prog 233 #[.int .i64 x, .int .i64 16] w fun e w' => e = .returned (.bool (inR 65535 x)) ∧ w = w' := by
  unfold inR
  by_cases h : 0 ≤ x
  · have t0 : decide (0 ≤ x) = true := by simpa using h
    have HE := Lib.hid (show (decide (0 ≤ x) && decide (x ≤ 65535)) = decide (x < 65535 + 1) by rw [t0, Bool.true_and, decide_eq_decide]; omega)
    rw [HE.out]
    clear h
    go_enter Tryz.func233, Tryz.ntmps233
    gw0
    go_ret
    exact ⟨rfl, rfl⟩
  · have t0 : decide (0 ≤ x) = false := by simpa using h
    have HE := Lib.hid (show (decide (0 ≤ x) && decide (x ≤ 65535)) = false by rw [t0, Bool.false_and])
    rw [HE.out]
    clear h
    go_enter Tryz.func233, Tryz.ntmps233
    gw0
    go_ret
    exact ⟨rfl, rfl⟩
theorem within5 (x : Int) (w : World) : Calls Tryz.prog 233 #[.int .i64 x, .int .i64 5] w fun e w' => e = .returned (.bool (inR 31 x)) ∧ w = w' := by
  unfold inR
  by_cases h : 0 ≤ x
  · have t0 : decide (0 ≤ x) = true := by simpa using h
    have HE := Lib.hid (show (decide (0 ≤ x) && decide (x ≤ 31)) = decide (x < 31 + 1) by rw [t0, Bool.true_and, decide_eq_decide]; omega)
    rw [HE.out]
    clear h
    go_enter Tryz.func233, Tryz.ntmps233
    gw0
    go_ret
    exact ⟨rfl, rfl⟩
  · have t0 : decide (0 ≤ x) = false := by simpa using h
    have HE := Lib.hid (show (decide (0 ≤ x) && decide (x ≤ 31)) = false by rw [t0, Bool.false_and])
    rw [HE.out]
    clear h
    go_enter Tryz.func233, Tryz.ntmps233
    gw0
    go_ret
    exact ⟨rfl, rfl⟩
theorem check_any (s : Sc) (w : World) : Calls Tryz.prog 210 #[.agg s.vals] w fun e w' => e = .returned (.int .i64 s.chk) ∧ Below w.heap.size w w' := by
  have h1 := @chk_no s
  have h2 := @chk_full s
  have h3 := @chk_ok s
  unfold Sc.ok at h1 h2 h3
  obtain ⟨t, p, e, v, n, m, l, b⟩ := s
  dsimp only at h1 h2 h3
  have HB := Lib.hid (show Below w.heap.size w (w.alloc (.cells #[.int .i64 t, .bool p, .int .i64 e, .int .i64 v, .bool n, .int .i64 m, .int .i64 l, .string b] 313)) from (Below.refl _ _).alloc (Nat.le_refl _) _)
  obtain ⟨c, hc⟩ : ∃ c, Sc.chk ⟨t, p, e, v, n, m, l, b⟩ = c := ⟨_, rfl⟩
  rw [hc] at h1 h2 h3 ⊢
  clear hc
  unfold Sc.vals
  have k1 := fun V => within8 t V
  have k2 := fun V => within16 e V
  have k3 := fun V => within5 v V
  have k4 := fun V => within8 l V
  cases b1 : inR 255 t with
  | false =>
    have HE := Lib.hid (h1 (fun h => inR_false b1 h.1))
    rw [b1] at k1
    clear h1 h2 h3 b1
    go_enter Tryz.func210, Tryz.ntmps210
    gw0
    (with_reducible refine (k1 _).mono ?_); rintro e1 W1 ⟨rfl, rfl⟩
    gw0
    go_ret
    exact ⟨by rw [HE.out]; rfl, HB.out⟩
  | true =>
    rw [b1] at k1
    cases b2 : inR 65535 e with
    | false =>
      have HE := Lib.hid (h1 (fun h => inR_false b2 h.2.1))
      rw [b2] at k2
      clear h1 h2 h3 b1 b2
      go_enter Tryz.func210, Tryz.ntmps210
      gw0
      (with_reducible refine (k1 _).mono ?_); rintro e1 W1 ⟨rfl, rfl⟩
      gw0
      (with_reducible refine (k2 _).mono ?_); rintro e1 W1 ⟨rfl, rfl⟩
      gw0
      go_ret
      exact ⟨by rw [HE.out]; rfl, HB.out⟩
    | true =>
      rw [b2] at k2
      cases b3 : inR 31 v with
      | false =>
        have HE := Lib.hid (h1 (fun h => inR_false b3 h.2.2.1))
        rw [b3] at k3
        clear h1 h2 h3 b1 b2 b3
        go_enter Tryz.func210, Tryz.ntmps210
        gw0
        (with_reducible refine (k1 _).mono ?_); rintro e1 W1 ⟨rfl, rfl⟩
        gw0
        (with_reducible refine (k2 _).mono ?_); rintro e1 W1 ⟨rfl, rfl⟩
        gw0
        (with_reducible refine (k3 _).mono ?_); rintro e1 W1 ⟨rfl, rfl⟩
        gw0
        go_ret
        exact ⟨by rw [HE.out]; rfl, HB.out⟩
      | true =>
        rw [b3] at k3
        cases b4 : inR 255 l with
        | false =>
          have HE := Lib.hid (h1 (fun h => inR_false b4 h.2.2.2.1))
          rw [b4] at k4
          clear h1 h2 h3 b1 b2 b3 b4
          go_enter Tryz.func210, Tryz.ntmps210
          gw0
          (with_reducible refine (k1 _).mono ?_); rintro e1 W1 ⟨rfl, rfl⟩
          gw0
          (with_reducible refine (k2 _).mono ?_); rintro e1 W1 ⟨rfl, rfl⟩
          gw0
          (with_reducible refine (k3 _).mono ?_); rintro e1 W1 ⟨rfl, rfl⟩
          gw0
          (with_reducible refine (k4 _).mono ?_); rintro e1 W1 ⟨rfl, rfl⟩
          gw0
          go_ret
          exact ⟨by rw [HE.out]; rfl, HB.out⟩
        | true =>
          rw [b4] at k4
          have hok := fun h : 0 ≤ m ∧ m ≤ l => And.intro (inR_true b1) (And.intro (inR_true b2) (And.intro (inR_true b3) (And.intro (inR_true b4) h)))
          obtain ⟨t5, t6, HE⟩ : ∃ (_ : (m < 0) ∨ ¬ (m < 0)) (_ : (l < m) ∨ ¬ (l < m)), Hid ((m < 0 → c = 15) ∧ (l < m → c = 15) ∧ (¬ m < 0 → ¬ l < m → (4084 < b.size → c = 17) ∧ (¬ 4084 < b.size → c = 0))) :=
            ⟨Classical.em _, Classical.em _, Lib.hid ⟨fun h => h1 (fun h' => by omega), fun h => h1 (fun h' => by omega), fun g1 g2 => ⟨fun g => h2 (hok ⟨by omega, by omega⟩) g, fun g => h3 (hok ⟨by omega, by omega⟩) g⟩⟩⟩
          clear h1 h2 h3 b1 b2 b3 b4 hok
          rcases t5 with t5 | t5
          · have t7 : decide (m < 0) = true := by simpa using t5
            replace HE := Lib.hid (HE.out.1 t5)
            clear t5 t6
            go_enter Tryz.func210, Tryz.ntmps210
            gw0
            (with_reducible refine (k1 _).mono ?_); rintro e1 W1 ⟨rfl, rfl⟩
            gw0
            (with_reducible refine (k2 _).mono ?_); rintro e1 W1 ⟨rfl, rfl⟩
            gw0
            (with_reducible refine (k3 _).mono ?_); rintro e1 W1 ⟨rfl, rfl⟩
            gw0
            (with_reducible refine (k4 _).mono ?_); rintro e1 W1 ⟨rfl, rfl⟩
            gw0
            go_ret
            exact ⟨by rw [HE.out]; rfl, HB.out⟩
          · have t7 : decide (m < 0) = false := by simpa using t5
            rcases t6 with t6 | t6
            · have t8 : decide (l < m) = true := by simpa using t6
              replace HE := Lib.hid (HE.out.2.1 t6)
              clear t5 t6
              go_enter Tryz.func210, Tryz.ntmps210
              gw0
              (with_reducible refine (k1 _).mono ?_); rintro e1 W1 ⟨rfl, rfl⟩
              gw0
              (with_reducible refine (k2 _).mono ?_); rintro e1 W1 ⟨rfl, rfl⟩
              gw0
              (with_reducible refine (k3 _).mono ?_); rintro e1 W1 ⟨rfl, rfl⟩
              gw0
              (with_reducible refine (k4 _).mono ?_); rintro e1 W1 ⟨rfl, rfl⟩
              gw0
              go_ret
              exact ⟨by rw [HE.out]; rfl, HB.out⟩
            · have t8 : decide (l < m) = false := by simpa using t6
              replace HE := Lib.hid (HE.out.2.2 t5 t6)
              clear t5 t6
              by_cases h9 : 4084 < b.size
              · have t9 : decide (4084 < (b.size : Int)) = true := by simp; omega
                replace HE := Lib.hid (HE.out.1 h9)
                clear h9
                go_enter Tryz.func210, Tryz.ntmps210
                gw0
                (with_reducible refine (k1 _).mono ?_); rintro e1 W1 ⟨rfl, rfl⟩
                gw0
                (with_reducible refine (k2 _).mono ?_); rintro e1 W1 ⟨rfl, rfl⟩
                gw0
                (with_reducible refine (k3 _).mono ?_); rintro e1 W1 ⟨rfl, rfl⟩
                gw0
                (with_reducible refine (k4 _).mono ?_); rintro e1 W1 ⟨rfl, rfl⟩
                gw0
                go_ret
                exact ⟨by rw [HE.out]; rfl, HB.out⟩
              · have t9 : decide (4084 < (b.size : Int)) = false := by simp; omega
                replace HE := Lib.hid (HE.out.2 h9)
                clear h9
                go_enter Tryz.func210, Tryz.ntmps210
                gw0
                (with_reducible refine (k1 _).mono ?_); rintro e1 W1 ⟨rfl, rfl⟩
                gw0
                (with_reducible refine (k2 _).mono ?_); rintro e1 W1 ⟨rfl, rfl⟩
                gw0
                (with_reducible refine (k3 _).mono ?_); rintro e1 W1 ⟨rfl, rfl⟩
                gw0
                (with_reducible refine (k4 _).mono ?_); rintro e1 W1 ⟨rfl, rfl⟩
                gw0
                go_ret
                exact ⟨by rw [HE.out]; rfl, HB.out⟩
end Go.Proofs.YtbiiehobfnbloaaGreatDoor.SeA
namespace Go.Proofs.YtbiiehobfnbloaaGreatDoor.SeB
end Go.Proofs.YtbiiehobfnbloaaGreatDoor.SeB
namespace Go.Proofs.YtbiiehobfnbloaaGreatDoor.SeC
open Go Go.RowKit Q Mem Rg Ap St BiP BiW BiF BiA BiG CrB CrC SeA
set_option maxRecDepth 100000
end Go.Proofs.YtbiiehobfnbloaaGreatDoor.SeC
namespace Go.Proofs.YtbiiehobfnbloaaGreatDoor.SeD
end Go.Proofs.YtbiiehobfnbloaaGreatDoor.SeD
namespace Go.Proofs.YtbiiehobfnbloaaGreatDoor.SeE
open Go Go.RowKit Q Mem Rg Ap St BiP CrC CrD SeA SeC SeD
end Go.Proofs.YtbiiehobfnbloaaGreatDoor.SeE
namespace Go.Proofs.YtbiiehobfnbloaaGreatDoor.SeG
open Go Go.RowKit Q Mem Rg Ap St BiP BiA BiG BiH
def nN (t : ByteArray) : Nat := at0 t 1 % 16 * 256 + at0 t 2
def nBad (t : ByteArray) : Prop := (at0 t 1 / 16 ≠ 11 ∧ at0 t 1 / 16 ≠ 15) ∨ nN t < 9 ∨ 4093 < nN t
instance (t : ByteArray) : Decidable (nBad t) := by unfold nBad; infer_instance
set_option maxRecDepth 100000
end Go.Proofs.YtbiiehobfnbloaaGreatDoor.SeG
namespace Go.Proofs.YtbiiehobfnbloaaGreatDoor.SeEq
open Go Go.RowKit Q Mem St SeA
theorem bytes_eq (a b : ByteArray) : (a.toList == b.toList) = decide (a = b) := by
  rw [ByteArray.toList_eq, ByteArray.toList_eq]
  obtain ⟨⟨x⟩⟩ := a
  obtain ⟨⟨y⟩⟩ := b
  by_cases h : x = y <;> simp [h]
theorem isEmpty_iff (s : ByteArray) : s.toList.isEmpty = decide (s.size = 0) := by
  rw [ByteArray.toList_eq]
  obtain ⟨⟨x⟩⟩ := s
  cases x <;> simp [ByteArray.size]
theorem sc_iff {a b : Sc} : a = b ↔ a.table = b.table ∧ a.priv = b.priv ∧ a.ext = b.ext ∧ a.version = b.version ∧ a.now = b.now ∧ a.number = b.number ∧ a.last = b.last ∧ a.body = b.body := ⟨fun h => by subst h; simp, fun ⟨h1, h2, h3, h4, h5, h6, h7, h8⟩ => by cases a; cases b; simp_all⟩
instance : DecidableEq Sc := fun _ _ => decidable_of_iff _ sc_iff.symm
set_option maxRecDepth 100000
end Go.Proofs.YtbiiehobfnbloaaGreatDoor.SeEq
namespace Go.Proofs.YtbiiehobfnbloaaGreatDoor.SeH
open Go Go.RowKit Q Mem Rg Ap St BiP BiA BiG BiH CrC CrD SeA SeC SeG SeEq
set_option maxRecDepth 100000
end Go.Proofs.YtbiiehobfnbloaaGreatDoor.SeH
namespace Go.Proofs.YtbiiehobfnbloaaGreatDoor.SeI
open Go Go.RowKit Q Mem Rg Ap St BiP BiA BiG BiH CrC CrD SeA SeC SeG SeEq SeH
def fBad (u : ByteArray) : Prop := at0 u 5 / 64 ≠ 3 ∨ at0 u 7 < at0 u 6
instance (u : ByteArray) : Decidable (fBad u) := by unfold fBad; infer_instance
section
variable {P : Program}
set_option maxRecDepth 100000
theorem res_row {fn : Func} {p q : Tmp} {ty : TypeId} (h : fn.results = #[.cell p ty, .tmp q]) (tmps : Array Value) (w : World) (g : Nat) (t : TypeId) (cs : Array Value) (fr : Nat × Nat) (d : TypeDesc)
    (hp : tmps.getD p undef = .pointer (some ⟨g, 0, none⟩)) (hg : w.heap[g]? = some (.cells cs t fr))
    (hu : P.underlying ty = some d) (hd : (match d with | .struct _ | .array _ _ => true | _ => false) = true) (hi : (P.info? ty).map (·.size) = some cs.size) :
    (results fn tmps).run P w = .ok (.tuple #[.agg cs, tmps.getD q undef]) w := by
  have hp' : tmps[p]?.getD undef = .pointer (some ⟨g, 0, none⟩) := by simpa using hp
  simp [results, h, hp', asAddr, run_loadVar_row w g t ty cs fr d hg hu hd hi]
end
set_option maxRecDepth 100000
end Go.Proofs.YtbiiehobfnbloaaGreatDoor.SeI
namespace Go.Proofs.YtbiiehobfnbloaaGreatDoor.SeI2
open Go Go.RowKit Q Mem Rg Ap St BiP BiA BiG BiH CrC CrD SeA SeC SeG SeEq SeH SeI
set_option maxRecDepth 100000
end Go.Proofs.YtbiiehobfnbloaaGreatDoor.SeI2
namespace Go.Proofs.YtbiiehobfnbloaaGreatDoor.SeJ
open Go Go.RowKit Q Mem Rg Ap St BiP BiA BiG BiH CrC CrD SeA SeC SeG SeEq SeH SeI
set_option maxRecDepth 100000
end Go.Proofs.YtbiiehobfnbloaaGreatDoor.SeJ
namespace Go.Proofs.YtbiiehobfnbloaaGreatDoor.SeK
open Go Go.RowKit Q Mem Rg Ap St BiP BiA BiG BiH CrC CrD SeA SeC SeG SeEq SeH SeI SeJ
set_option maxRecDepth 100000
end Go.Proofs.YtbiiehobfnbloaaGreatDoor.SeK
namespace Go.Proofs.YtbiiehobfnbloaaGreatDoor.SeP
open Go Go.RowKit Q Mem Rg Ap St BiP BiA BiG BiH CrP CrC CrD SeA SeC SeG SeEq SeH SeI SeE
set_option maxRecDepth 100000
end Go.Proofs.YtbiiehobfnbloaaGreatDoor.SeP
namespace Go.Proofs.YtbiiehobfnbloaaGreatDoor.Turn
open Go Go.RowKit Q Mem Rg Ap St CrP CrC SeA SeC SeE SeG SeEq SeI SeP BiH
end Go.Proofs.YtbiiehobfnbloaaGreatDoor.Turn
