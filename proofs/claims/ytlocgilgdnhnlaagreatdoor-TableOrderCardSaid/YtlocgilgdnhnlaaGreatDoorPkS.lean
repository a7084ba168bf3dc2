/- Texts that belong together: SeA, SeB, SeC, SeD, SeE, SeG, SeEq, SeH, SeI, SeI2, SeJ, SeK, SeP, Turn. -/
import Derived.Test.YtlocgilgdnhnlaaGreatDoorPkB
import Derived.Outline
import Derived.Laws.StructEq
/- section: what is wrong with a section. -/
namespace Go.Proofs.YtlocgilgdnhnlaaGreatDoor.SeA
open Go Go.RowKit Go.Proofs.YtlocgilgdnhnlaaGreatDoor.Q Go.Proofs.YtlocgilgdnhnlaaGreatDoor.Mem Go.Proofs.YtlocgilgdnhnlaaGreatDoor.Rg Go.Proofs.YtlocgilgdnhnlaaGreatDoor.St

/-- a section -/
structure Sc where
  table : Int
  priv : Bool
  ext : Int
  version : Int
  now : Bool
  number : Int
  last : Int
  body : ByteArray
def Sc.vals (s : Sc) : Array Value := #[.int .i64 s.table, .bool s.priv, .int .i64 s.ext, .int .i64 s.version, .bool s.now, .int .i64 s.number, .int .i64 s.last, .string s.body]
def inR (m x : Int) : Bool := decide (0 ≤ x) && decide (x ≤ m)
theorem inR_true {m x : Int} (h : inR m x = true) : 0 ≤ x ∧ x ≤ m := by simpa [inR] using h
theorem inR_false {m x : Int} (h : inR m x = false) : ¬ (0 ≤ x ∧ x ≤ m) := by
  intro h'
  have : inR m x = true := by simpa [inR] using h'
  rw [h] at this; cases this
def Sc.ok (s : Sc) : Prop := (0 ≤ s.table ∧ s.table ≤ 255) ∧ (0 ≤ s.ext ∧ s.ext ≤ 65535) ∧ (0 ≤ s.version ∧ s.version ≤ 31) ∧ (0 ≤ s.last ∧ s.last ≤ 255) ∧ 0 ≤ s.number ∧ s.number ≤ s.last
instance (s : Sc) : Decidable s.ok := by unfold Sc.ok; infer_instance
/-- what is wrong with it -/
def Sc.chk (s : Sc) : Int := if s.ok then (if 4084 < s.body.size then 17 else 0) else 15
theorem chk_no {s : Sc} (h : ¬ s.ok) : s.chk = 15 := by unfold Sc.chk; rw [if_neg h]
theorem chk_full {s : Sc} (h : s.ok) (h2 : 4084 < s.body.size) : s.chk = 17 := by unfold Sc.chk; rw [if_pos h, if_pos h2]
theorem chk_ok {s : Sc} (h : s.ok) (h2 : ¬ 4084 < s.body.size) : s.chk = 0 := by unfold Sc.chk; rw [if_pos h, if_neg h2]
set_option maxRecDepth 100000
end Go.Proofs.YtlocgilgdnhnlaaGreatDoor.SeA

/- In this seat the document's Check of a section isn't reached. -/
namespace Go.Proofs.YtlocgilgdnhnlaaGreatDoor.SeB
end Go.Proofs.YtlocgilgdnhnlaaGreatDoor.SeB

/- section: Encode. -/
namespace Go.Proofs.YtlocgilgdnhnlaaGreatDoor.SeC
open Go Go.RowKit Go.Proofs.YtlocgilgdnhnlaaGreatDoor.Q Go.Proofs.YtlocgilgdnhnlaaGreatDoor.Mem Go.Proofs.YtlocgilgdnhnlaaGreatDoor.Rg Go.Proofs.YtlocgilgdnhnlaaGreatDoor.Ap Go.Proofs.YtlocgilgdnhnlaaGreatDoor.St Go.Proofs.YtlocgilgdnhnlaaGreatDoor.BiP Go.Proofs.YtlocgilgdnhnlaaGreatDoor.BiW Go.Proofs.YtlocgilgdnhnlaaGreatDoor.BiF Go.Proofs.YtlocgilgdnhnlaaGreatDoor.BiA Go.Proofs.YtlocgilgdnhnlaaGreatDoor.BiG Go.Proofs.YtlocgilgdnhnlaaGreatDoor.CrB Go.Proofs.YtlocgilgdnhnlaaGreatDoor.CrC Go.Proofs.YtlocgilgdnhnlaaGreatDoor.SeA

/-- a section's head, as numbers with their widths -/
def flds (s : Sc) : List (Nat × Nat) := [(s.table.toNat, 8), (1, 1), (nb s.priv, 1), (3, 2), (s.body.size + 9, 12), (s.ext.toNat, 16), (3, 2), (s.version.toNat, 5), (nb s.now, 1), (s.number.toNat, 8), (s.last.toNat, 8)]
def fbits (F : List (Nat × Nat)) : List Bool := F.flatMap fun f => bitsOf f.1 f.2
/-- a section's bytes, but for the check sum -/
def frontL (s : Sc) : List UInt8 := [UInt8.ofNat s.table.toNat, UInt8.ofNat (176 + 64 * nb s.priv + (s.body.size + 9) / 256), UInt8.ofNat ((s.body.size + 9) % 256), UInt8.ofNat (s.ext.toNat / 256), UInt8.ofNat (s.ext.toNat % 256), UInt8.ofNat (192 + 2 * s.version.toNat + nb s.now), UInt8.ofNat s.number.toNat, UInt8.ofNat s.last.toNat]
theorem front_bits (s : Sc) (h : s.ok) (hb : ¬ 4084 < s.body.size) : pk (fbits (flds s) ++ bitsL (bl s.body)) = frontL s ++ bl s.body := by
  obtain ⟨⟨_, a2⟩, ⟨_, b2⟩, ⟨_, c2⟩, ⟨_, d2⟩, _, f2⟩ := h
  have hp := nb_le s.priv
  have hn := nb_le s.now
  obtain ⟨n, hN⟩ : ∃ n, s.body.size + 9 = n := ⟨_, rfl⟩
  have hx : fbits (flds s) = bitsOf s.table.toNat 8 ++ (bitsOf (176 + 64 * nb s.priv + n / 256) 8 ++ (bitsOf (n % 256) 8 ++ (bitsOf (s.ext.toNat / 256) 8 ++ (bitsOf (s.ext.toNat % 256) 8 ++ (bitsOf (192 + 2 * s.version.toNat + nb s.now) 8 ++ (bitsOf s.number.toNat 8 ++ (bitsOf s.last.toNat 8 ++ []))))))) := by
    have e1 : bitsOf 1 1 ++ (bitsOf (nb s.priv) 1 ++ (bitsOf 3 2 ++ bitsOf n 12)) = bitsOf (176 + 64 * nb s.priv + n / 256) 8 ++ bitsOf (n % 256) 8 := by
      rw [bitsOf_join 3 n 2 12 (by omega), bitsOf_join (nb s.priv) _ 1 14 (by omega), bitsOf_join 1 _ 1 15 (by omega), bitsOf_join _ (n % 256) 8 8 (by omega)]
      exact congrArg (fun x => bitsOf x 16) (by omega)
    have e2 : bitsOf 3 2 ++ (bitsOf s.version.toNat 5 ++ bitsOf (nb s.now) 1) = bitsOf (192 + 2 * s.version.toNat + nb s.now) 8 := by
      rw [bitsOf_join s.version.toNat _ 5 1 (by omega), bitsOf_join 3 _ 2 6 (by omega)]
      exact congrArg (fun x => bitsOf x 8) (by omega)
    unfold fbits flds
    simp only [List.flatMap_cons, List.flatMap_nil, hN]
    rw [← List.append_assoc (bitsOf (176 + 64 * nb s.priv + n / 256) 8), ← e1, ← List.append_assoc (bitsOf (s.ext.toNat / 256) 8), ← bitsOf_two, ← e2]
    simp only [List.append_assoc]
  rw [hx]
  simp only [List.append_assoc, List.nil_append, pk_cons, pk_bytes]
  unfold frontL
  rw [hN]
  rfl
def bytesS (s : Sc) : ByteArray := str (sealL (frontL s ++ bl s.body))
set_option maxRecDepth 100000
theorem fl_le {T P N E V Q M L k : Nat} {f : Nat × Nat} (hf : [(T, 8), (1, 1), (P, 1), (3, 2), (N + 9, 12), (E, 16), (3, 2), (V, 5), (Q, 1), (M, 8), (L, 8)][k]? = some f) (h : T < 65536 ∧ P < 65536 ∧ N < 65000 ∧ E < 65536 ∧ V < 65536 ∧ Q < 65536 ∧ M < 65536 ∧ L < 65536) : f.1 < 65536 ∧ f.2 ≤ 16 := by
  match k, hf with
  | 0, hf | 1, hf | 2, hf | 3, hf | 4, hf | 5, hf | 6, hf | 7, hf | 8, hf | 9, hf | 10, hf => injection hf with hf; subst hf; dsimp only; omega
  | _ + 11, hf => simp at hf
theorem fbits_snoc {F : List (Nat × Nat)} {k : Nat} {f : Nat × Nat} (h : F[k]? = some f) : fbits (F.take (k + 1)) = fbits (F.take k) ++ bitsOf f.1 f.2 := by rw [List.take_add_one, h]; simp [fbits]
theorem fbits_len {F : List (Nat × Nat)} (h : ∀ f ∈ F, f.2 ≤ 16) : (fbits F).length ≤ 16 * F.length := by
  induction F with
  | nil => simp [fbits]
  | cons f t ih =>
    have h1 := h f (List.mem_cons_self ..)
    have h2 := ih (fun x hx => h x (List.mem_cons_of_mem _ hx))
    simp only [fbits, List.flatMap_cons, List.length_append, bitsOf_len, List.length_cons] at h2 ⊢
    omega
end Go.Proofs.YtlocgilgdnhnlaaGreatDoor.SeC

/- In this seat the document's Bytes of a section isn't reached. -/
namespace Go.Proofs.YtlocgilgdnhnlaaGreatDoor.SeD
end Go.Proofs.YtlocgilgdnhnlaaGreatDoor.SeD

/- What Encode says of a section. -/
namespace Go.Proofs.YtlocgilgdnhnlaaGreatDoor.SeE
open Go Go.RowKit Go.Proofs.YtlocgilgdnhnlaaGreatDoor.Q Go.Proofs.YtlocgilgdnhnlaaGreatDoor.Mem Go.Proofs.YtlocgilgdnhnlaaGreatDoor.Rg Go.Proofs.YtlocgilgdnhnlaaGreatDoor.Ap Go.Proofs.YtlocgilgdnhnlaaGreatDoor.St Go.Proofs.YtlocgilgdnhnlaaGreatDoor.BiP Go.Proofs.YtlocgilgdnhnlaaGreatDoor.CrC Go.Proofs.YtlocgilgdnhnlaaGreatDoor.CrD Go.Proofs.YtlocgilgdnhnlaaGreatDoor.SeA Go.Proofs.YtlocgilgdnhnlaaGreatDoor.SeC Go.Proofs.YtlocgilgdnhnlaaGreatDoor.SeD

/-- what Encode says -/
def encS (s : Sc) : ByteArray := if s.chk = 0 then bytesS s else nob
theorem chk_zero {s : Sc} (h : s.chk = 0) : s.ok ∧ ¬ 4084 < s.body.size := by
  unfold Sc.chk at h
  split at h
  · rename_i hk
    split at h
    · omega
    · rename_i hb; exact ⟨hk, hb⟩
  · omega
end Go.Proofs.YtlocgilgdnhnlaaGreatDoor.SeE

/- section: Need. -/
namespace Go.Proofs.YtlocgilgdnhnlaaGreatDoor.SeG
open Go Go.RowKit Go.Proofs.YtlocgilgdnhnlaaGreatDoor.Q Go.Proofs.YtlocgilgdnhnlaaGreatDoor.Mem Go.Proofs.YtlocgilgdnhnlaaGreatDoor.Rg Go.Proofs.YtlocgilgdnhnlaaGreatDoor.Ap Go.Proofs.YtlocgilgdnhnlaaGreatDoor.St Go.Proofs.YtlocgilgdnhnlaaGreatDoor.BiP Go.Proofs.YtlocgilgdnhnlaaGreatDoor.BiA Go.Proofs.YtlocgilgdnhnlaaGreatDoor.BiG Go.Proofs.YtlocgilgdnhnlaaGreatDoor.BiH

def nN (t : ByteArray) : Nat := at0 t 1 % 16 * 256 + at0 t 2
def nBad (t : ByteArray) : Prop := (at0 t 1 / 16 ≠ 11 ∧ at0 t 1 / 16 ≠ 15) ∨ nN t < 9 ∨ 4093 < nN t
instance (t : ByteArray) : Decidable (nBad t) := by unfold nBad; infer_instance
/-- what is wrong with a beginning; how many bytes -/
def needE (t : ByteArray) : Int := if t.size < 3 then 10 else if nBad t then 12 else 0
def needN (t : ByteArray) : Nat := if needE t = 0 then nN t + 3 else 0
set_option maxRecDepth 100000
theorem wrap63 (n : Nat) (h : n < 9223372036854775808) : IntKind.i64.wrap (n : Int) = (n : Int) := by rw [IntKind.wrap_i64]; omega
end Go.Proofs.YtlocgilgdnhnlaaGreatDoor.SeG

/- Equality of strings, and of sections. -/
namespace Go.Proofs.YtlocgilgdnhnlaaGreatDoor.SeEq
open Go Go.RowKit Go.Proofs.YtlocgilgdnhnlaaGreatDoor.Q Go.Proofs.YtlocgilgdnhnlaaGreatDoor.Mem Go.Proofs.YtlocgilgdnhnlaaGreatDoor.St Go.Proofs.YtlocgilgdnhnlaaGreatDoor.SeA

theorem bytes_eq (a b : ByteArray) : (a.toList == b.toList) = decide (a = b) := by
  rw [ByteArray.toList_eq, ByteArray.toList_eq]
  obtain ⟨⟨x⟩⟩ := a
  obtain ⟨⟨y⟩⟩ := b
  by_cases h : x = y <;> simp [h]
theorem tl_iff (a b : ByteArray) : a.toList = b.toList ↔ a = b := by
  have := bytes_eq a b
  by_cases h : a = b
  · simp [h]
  · simp [h] at this
    simp [h, this]
theorem bytes_ne {a b : ByteArray} (h : a ≠ b) : (a.toList == b.toList) = false := by rw [bytes_eq]; simpa using h
theorem isEmpty_iff (s : ByteArray) : s.toList.isEmpty = decide (s.size = 0) := by
  rw [ByteArray.toList_eq]
  obtain ⟨⟨x⟩⟩ := s
  cases x <;> simp [ByteArray.size]
theorem sc_iff {a b : Sc} : a = b ↔ a.table = b.table ∧ a.priv = b.priv ∧ a.ext = b.ext ∧ a.version = b.version ∧ a.now = b.now ∧ a.number = b.number ∧ a.last = b.last ∧ a.body = b.body := ⟨fun h => by subst h; simp, fun ⟨h1, h2, h3, h4, h5, h6, h7, h8⟩ => by cases a; cases b; simp_all⟩
instance : DecidableEq Sc := fun _ _ => decidable_of_iff _ sc_iff.symm
set_option maxRecDepth 100000
end Go.Proofs.YtlocgilgdnhnlaaGreatDoor.SeEq

/- The document's Open and Decode. -/
namespace Go.Proofs.YtlocgilgdnhnlaaGreatDoor.SeH
open Go Go.RowKit Go.Proofs.YtlocgilgdnhnlaaGreatDoor.Q Go.Proofs.YtlocgilgdnhnlaaGreatDoor.Mem Go.Proofs.YtlocgilgdnhnlaaGreatDoor.Rg Go.Proofs.YtlocgilgdnhnlaaGreatDoor.Ap Go.Proofs.YtlocgilgdnhnlaaGreatDoor.St Go.Proofs.YtlocgilgdnhnlaaGreatDoor.BiP Go.Proofs.YtlocgilgdnhnlaaGreatDoor.BiA Go.Proofs.YtlocgilgdnhnlaaGreatDoor.BiG Go.Proofs.YtlocgilgdnhnlaaGreatDoor.BiH Go.Proofs.YtlocgilgdnhnlaaGreatDoor.CrC Go.Proofs.YtlocgilgdnhnlaaGreatDoor.CrD Go.Proofs.YtlocgilgdnhnlaaGreatDoor.SeA Go.Proofs.YtlocgilgdnhnlaaGreatDoor.SeC Go.Proofs.YtlocgilgdnhnlaaGreatDoor.SeG Go.Proofs.YtlocgilgdnhnlaaGreatDoor.SeEq

/-- sealed is what opens -/
theorem seal_open (s : ByteArray) (h4 : 4 ≤ s.size) : (str (sealL (bl (s.extract 0 (s.size - 4)))) = s) ↔ sumL (bl s) = 0#32 := by
  rw [ext_bl, List.drop_zero, Nat.sub_zero]
  have := seal_only (bl s) (by rw [bl_len]; exact h4)
  rw [bl_len] at this
  constructor
  · intro h
    refine this.2 ?_
    have h' := congrArg bl h
    rw [bl_str] at h'
    exact h'.symm
  · intro h
    exact bl_inj (by rw [bl_str]; exact (this.1 h).symm)
set_option maxRecDepth 100000
end Go.Proofs.YtlocgilgdnhnlaaGreatDoor.SeH

/- The document's Decode. -/
namespace Go.Proofs.YtlocgilgdnhnlaaGreatDoor.SeI
open Go Go.RowKit Go.Proofs.YtlocgilgdnhnlaaGreatDoor.Q Go.Proofs.YtlocgilgdnhnlaaGreatDoor.Mem Go.Proofs.YtlocgilgdnhnlaaGreatDoor.Rg Go.Proofs.YtlocgilgdnhnlaaGreatDoor.Ap Go.Proofs.YtlocgilgdnhnlaaGreatDoor.St Go.Proofs.YtlocgilgdnhnlaaGreatDoor.BiP Go.Proofs.YtlocgilgdnhnlaaGreatDoor.BiA Go.Proofs.YtlocgilgdnhnlaaGreatDoor.BiG Go.Proofs.YtlocgilgdnhnlaaGreatDoor.BiH Go.Proofs.YtlocgilgdnhnlaaGreatDoor.CrC Go.Proofs.YtlocgilgdnhnlaaGreatDoor.CrD Go.Proofs.YtlocgilgdnhnlaaGreatDoor.SeA Go.Proofs.YtlocgilgdnhnlaaGreatDoor.SeC Go.Proofs.YtlocgilgdnhnlaaGreatDoor.SeG Go.Proofs.YtlocgilgdnhnlaaGreatDoor.SeEq Go.Proofs.YtlocgilgdnhnlaaGreatDoor.SeH

/-- the section of bytes that were opened -/
def rdS (u : ByteArray) : Sc := ⟨(at0 u 0 : Nat), decide (at0 u 1 / 64 % 2 = 1), (at0 u 3 * 256 + at0 u 4 : Nat), (at0 u 5 / 2 % 32 : Nat), decide (at0 u 5 % 2 = 1), (at0 u 6 : Nat), (at0 u 7 : Nat), u.extract 8 u.size⟩
def fBad (u : ByteArray) : Prop := at0 u 5 / 64 ≠ 3 ∨ at0 u 7 < at0 u 6
instance (u : ByteArray) : Decidable (fBad u) := by unfold fBad; infer_instance
def decE (t : ByteArray) : Int := if needE t ≠ 0 then needE t else if t.size < needN t then 10 else if needN t < t.size then 11 else if openE t ≠ 0 then openE t else if fBad (openS t) then 12 else 0
def zeroS : Sc := ⟨0, false, 0, 0, false, 0, 0, nob⟩
def decS (t : ByteArray) : Sc := if decE t = 0 then rdS (openS t) else zeroS
theorem dec_zero {t : ByteArray} {c : Int} (h : decE t = c) (hc : c ≠ 0) : decE t = c ∧ decS t = zeroS := ⟨h, by unfold decS; rw [if_neg (by rw [h]; exact hc)]⟩
theorem need_le {t : ByteArray} (h : needE t = 0) : 12 ≤ needN t ∧ needN t ≤ 4096 := by
  have : needN t = nN t + 3 := by unfold needN; rw [if_pos h]
  rw [this]
  unfold needE at h
  split at h
  · omega
  · split at h
    · omega
    · rename_i hb; unfold nBad at hb; omega
theorem open_size {t : ByteArray} (h : openE t = 0) (h8 : 12 ≤ t.size) : (openS t).size + 4 = t.size := by
  unfold openS; rw [if_pos h, ByteArray.size_extract]; omega
section
variable {P : Program}
set_option maxRecDepth 100000
theorem res_row {fn : Func} {p q : Tmp} {ty : TypeId} (h : fn.results = #[.cell p ty, .tmp q]) (tmps : Array Value) (w : World) (g : Nat) (t : TypeId) (cs : Array Value) (fr : Nat × Nat) (d : TypeDesc)
    (hp : tmps.getD p undef = .pointer (some ⟨g, 0, none⟩)) (hg : w.heap[g]? = some (.cells cs t fr))
    (hu : P.underlying ty = some d) (hd : (match d with | .struct _ | .array _ _ => true | _ => false) = true) (hi : (P.info? ty).map (·.size) = some cs.size) :
    (results fn tmps).run P w = .ok (.tuple #[.agg cs, tmps.getD q undef]) w := by
  have hp' : tmps[p]?.getD undef = .pointer (some ⟨g, 0, none⟩) := by simpa using hp
  simp [results, h, hp', asAddr, run_loadVar_row w g t ty cs fr d hg hu hd hi]
end
set_option maxRecDepth 100000
end Go.Proofs.YtlocgilgdnhnlaaGreatDoor.SeI

/- The document's Decode, of bytes that open. -/
namespace Go.Proofs.YtlocgilgdnhnlaaGreatDoor.SeI2
open Go Go.RowKit Go.Proofs.YtlocgilgdnhnlaaGreatDoor.Q Go.Proofs.YtlocgilgdnhnlaaGreatDoor.Mem Go.Proofs.YtlocgilgdnhnlaaGreatDoor.Rg Go.Proofs.YtlocgilgdnhnlaaGreatDoor.Ap Go.Proofs.YtlocgilgdnhnlaaGreatDoor.St Go.Proofs.YtlocgilgdnhnlaaGreatDoor.BiP Go.Proofs.YtlocgilgdnhnlaaGreatDoor.BiA Go.Proofs.YtlocgilgdnhnlaaGreatDoor.BiG Go.Proofs.YtlocgilgdnhnlaaGreatDoor.BiH Go.Proofs.YtlocgilgdnhnlaaGreatDoor.CrC Go.Proofs.YtlocgilgdnhnlaaGreatDoor.CrD Go.Proofs.YtlocgilgdnhnlaaGreatDoor.SeA Go.Proofs.YtlocgilgdnhnlaaGreatDoor.SeC Go.Proofs.YtlocgilgdnhnlaaGreatDoor.SeG Go.Proofs.YtlocgilgdnhnlaaGreatDoor.SeEq Go.Proofs.YtlocgilgdnhnlaaGreatDoor.SeH Go.Proofs.YtlocgilgdnhnlaaGreatDoor.SeI

set_option maxRecDepth 100000
end Go.Proofs.YtlocgilgdnhnlaaGreatDoor.SeI2

/- section: Decode. -/
namespace Go.Proofs.YtlocgilgdnhnlaaGreatDoor.SeJ
open Go Go.RowKit Go.Proofs.YtlocgilgdnhnlaaGreatDoor.Q Go.Proofs.YtlocgilgdnhnlaaGreatDoor.Mem Go.Proofs.YtlocgilgdnhnlaaGreatDoor.Rg Go.Proofs.YtlocgilgdnhnlaaGreatDoor.Ap Go.Proofs.YtlocgilgdnhnlaaGreatDoor.St Go.Proofs.YtlocgilgdnhnlaaGreatDoor.BiP Go.Proofs.YtlocgilgdnhnlaaGreatDoor.BiA Go.Proofs.YtlocgilgdnhnlaaGreatDoor.BiG Go.Proofs.YtlocgilgdnhnlaaGreatDoor.BiH Go.Proofs.YtlocgilgdnhnlaaGreatDoor.CrC Go.Proofs.YtlocgilgdnhnlaaGreatDoor.CrD Go.Proofs.YtlocgilgdnhnlaaGreatDoor.SeA Go.Proofs.YtlocgilgdnhnlaaGreatDoor.SeC Go.Proofs.YtlocgilgdnhnlaaGreatDoor.SeG Go.Proofs.YtlocgilgdnhnlaaGreatDoor.SeEq Go.Proofs.YtlocgilgdnhnlaaGreatDoor.SeH Go.Proofs.YtlocgilgdnhnlaaGreatDoor.SeI

theorem swap {w W : World} {x y : Nat × TypeId × Array Value} {L : List (Nat × TypeId × Array Value)} (h : Bk w W (x :: y :: L)) : Bk w W (y :: x :: L) := ⟨h.be, fun z hz => h.all z (by simp at hz ⊢; rcases hz with h | h | h; (exact Or.inr (Or.inl h)); (exact Or.inl h); (exact Or.inr (Or.inr h)))⟩
set_option maxRecDepth 100000
end Go.Proofs.YtlocgilgdnhnlaaGreatDoor.SeJ

/- section: Decode, of bytes that open. -/
namespace Go.Proofs.YtlocgilgdnhnlaaGreatDoor.SeK
open Go Go.RowKit Go.Proofs.YtlocgilgdnhnlaaGreatDoor.Q Go.Proofs.YtlocgilgdnhnlaaGreatDoor.Mem Go.Proofs.YtlocgilgdnhnlaaGreatDoor.Rg Go.Proofs.YtlocgilgdnhnlaaGreatDoor.Ap Go.Proofs.YtlocgilgdnhnlaaGreatDoor.St Go.Proofs.YtlocgilgdnhnlaaGreatDoor.BiP Go.Proofs.YtlocgilgdnhnlaaGreatDoor.BiA Go.Proofs.YtlocgilgdnhnlaaGreatDoor.BiG Go.Proofs.YtlocgilgdnhnlaaGreatDoor.BiH Go.Proofs.YtlocgilgdnhnlaaGreatDoor.CrC Go.Proofs.YtlocgilgdnhnlaaGreatDoor.CrD Go.Proofs.YtlocgilgdnhnlaaGreatDoor.SeA Go.Proofs.YtlocgilgdnhnlaaGreatDoor.SeC Go.Proofs.YtlocgilgdnhnlaaGreatDoor.SeG Go.Proofs.YtlocgilgdnhnlaaGreatDoor.SeEq Go.Proofs.YtlocgilgdnhnlaaGreatDoor.SeH Go.Proofs.YtlocgilgdnhnlaaGreatDoor.SeI Go.Proofs.YtlocgilgdnhnlaaGreatDoor.SeJ

/-- the fields, as the reader tells them -/
theorem fields (u : ByteArray) : gb u 0 8 = at0 u 0 ∧ gb u 9 1 = at0 u 1 / 64 % 2 ∧ gb u 24 16 = at0 u 3 * 256 + at0 u 4 ∧ gb u 40 2 = at0 u 5 / 64 ∧ gb u 42 5 = at0 u 5 / 2 % 32 ∧ gb u 47 1 = at0 u 5 % 2 ∧ gb u 48 8 = at0 u 6 ∧ gb u 56 8 = at0 u 7 := by
  have l5 := at0_lt u 5
  refine ⟨gb_byte u 0, ?_, ?_, ?_, ?_, ?_, gb_byte u 6, gb_byte u 7⟩
  · have := gb_in u 1 1 1 (by omega); simpa using this
  · have h := gb_split u 24 8 8
    have h1 := gb_byte u 3
    have h2 := gb_byte u 4
    simp only [Nat.reduceMul, Nat.reduceAdd, Nat.reducePow] at h h1 h2
    rw [h, h1, h2]
  · have := gb_in u 5 0 2 (by omega); simp at this; rw [this]; omega
  · have := gb_in u 5 2 5 (by omega); simpa using this
  · have := gb_in u 5 7 1 (by omega); simpa using this
set_option maxRecDepth 100000
end Go.Proofs.YtlocgilgdnhnlaaGreatDoor.SeK

/- Sections, plain: Encode of Decode, Decode of Encode. -/
namespace Go.Proofs.YtlocgilgdnhnlaaGreatDoor.SeP
open Go Go.RowKit Go.Proofs.YtlocgilgdnhnlaaGreatDoor.Q Go.Proofs.YtlocgilgdnhnlaaGreatDoor.Mem Go.Proofs.YtlocgilgdnhnlaaGreatDoor.Rg Go.Proofs.YtlocgilgdnhnlaaGreatDoor.Ap Go.Proofs.YtlocgilgdnhnlaaGreatDoor.St Go.Proofs.YtlocgilgdnhnlaaGreatDoor.BiP Go.Proofs.YtlocgilgdnhnlaaGreatDoor.BiA Go.Proofs.YtlocgilgdnhnlaaGreatDoor.BiG Go.Proofs.YtlocgilgdnhnlaaGreatDoor.BiH Go.Proofs.YtlocgilgdnhnlaaGreatDoor.CrP Go.Proofs.YtlocgilgdnhnlaaGreatDoor.CrC Go.Proofs.YtlocgilgdnhnlaaGreatDoor.CrD Go.Proofs.YtlocgilgdnhnlaaGreatDoor.SeA Go.Proofs.YtlocgilgdnhnlaaGreatDoor.SeC Go.Proofs.YtlocgilgdnhnlaaGreatDoor.SeG Go.Proofs.YtlocgilgdnhnlaaGreatDoor.SeEq Go.Proofs.YtlocgilgdnhnlaaGreatDoor.SeH Go.Proofs.YtlocgilgdnhnlaaGreatDoor.SeI Go.Proofs.YtlocgilgdnhnlaaGreatDoor.SeE

set_option maxRecDepth 100000
theorem at0_bl {s : ByteArray} {i : Nat} {c : UInt8} (h : (bl s)[i]? = some c) : at0 s i = c.toNat := by
  unfold at0 bl at *
  rw [Array.getElem?_toList] at h
  rw [h]; rfl
theorem bl_at0 (s : ByteArray) (i : Nat) (h : i < s.size) : (bl s)[i]? = some (UInt8.ofNat (at0 s i)) := by
  obtain ⟨c, hc, _⟩ := byte_at s i h
  rw [hc, at0_bl hc]; simp
theorem head8 (u : ByteArray) (h : 8 ≤ u.size) : bl u = [UInt8.ofNat (at0 u 0), UInt8.ofNat (at0 u 1), UInt8.ofNat (at0 u 2), UInt8.ofNat (at0 u 3), UInt8.ofNat (at0 u 4), UInt8.ofNat (at0 u 5), UInt8.ofNat (at0 u 6), UInt8.ofNat (at0 u 7)] ++ (bl u).drop 8 := by
  apply List.ext_getElem?
  intro i
  by_cases hi : i < 8
  · rw [List.getElem?_append_left (by simpa using hi), bl_at0 u i (by omega)]
    match i, hi with
    | 0, _ | 1, _ | 2, _ | 3, _ | 4, _ | 5, _ | 6, _ | 7, _ => rfl
  · rw [List.getElem?_append_right (by simp; omega), List.getElem?_drop]
    simp only [List.length_cons, List.length_nil]
    congr 1; omega
theorem nb_dec (n : Nat) : nb (decide (n % 2 = 1)) = n % 2 := by
  unfold nb
  by_cases h : n % 2 = 1 <;> simp [h] <;> omega
theorem front_rd (u : ByteArray) (h8 : 8 ≤ u.size) (h1 : at0 u 1 / 16 = 11 ∨ at0 u 1 / 16 = 15) (hn : at0 u 1 % 16 * 256 + at0 u 2 = u.size + 1) (h5 : at0 u 5 / 64 = 3) : frontL (rdS u) ++ bl (rdS u).body = bl u := by
  have hb : bl (rdS u).body = (bl u).drop 8 := by
    show bl (u.extract 8 u.size) = _
    rw [ext_bl, List.take_of_length_le (by rw [List.length_drop, bl_len]; omega)]
  have hs : (rdS u).body.size + 9 = u.size + 1 := by
    show (u.extract 8 u.size).size + 9 = _
    rw [ByteArray.size_extract]; omega
  have l0 := at0_lt u 0
  have l2 := at0_lt u 2
  have l4 := at0_lt u 4
  have l5 := at0_lt u 5
  rw [hb]
  conv => rhs; rw [head8 u h8]
  congr 1
  unfold frontL
  rw [hs, ← hn]
  simp only [rdS, Int.toNat_natCast, nb_dec]
  have e1 : 176 + 64 * (at0 u 1 / 64 % 2) + (at0 u 1 % 16 * 256 + at0 u 2) / 256 = at0 u 1 := by omega
  have e2 : (at0 u 1 % 16 * 256 + at0 u 2) % 256 = at0 u 2 := by omega
  have e3 : (at0 u 3 * 256 + at0 u 4) / 256 = at0 u 3 := by omega
  have e4 : (at0 u 3 * 256 + at0 u 4) % 256 = at0 u 4 := by omega
  have e5 : 192 + 2 * (at0 u 5 / 2 % 32) + at0 u 5 % 2 = at0 u 5 := by omega
  rw [e1, e2, e3, e4, e5]
theorem at0_take (t : ByteArray) (n i : Nat) (h : i < n) (hn : n ≤ t.size) : at0 (t.extract 0 n) i = at0 t i := by
  have h1 := bl_at0 t i (by omega)
  have h2 := bl_at0 (t.extract 0 n) i (by rw [ByteArray.size_extract]; omega)
  rw [ext_bl, List.drop_zero, Nat.sub_zero, List.getElem?_take_of_lt h, h1] at h2
  injection h2 with h2
  have l1 := at0_lt t i
  have l2 := at0_lt (t.extract 0 n) i
  have := congrArg UInt8.toNat h2
  simp at this
  omega
/-- Encode of Decode is the bytes -/
theorem dec_enc {t : ByteArray} (h : decE t = 0) : (decS t).chk = 0 ∧ bytesS (decS t) = t := by
  have hd : decS t = rdS (openS t) := by unfold decS; rw [if_pos h]
  rw [hd]
  unfold decE at h
  by_cases h1 : needE t = 0
  · rw [if_neg (by simpa using h1)] at h
    obtain ⟨g1, g2⟩ := need_le h1
    by_cases h2 : t.size < needN t
    · rw [if_pos h2] at h; omega
    · rw [if_neg h2] at h
      by_cases h3 : needN t < t.size
      · rw [if_pos h3] at h; omega
      · rw [if_neg h3] at h
        by_cases h4 : openE t = 0
        · rw [if_neg (by simpa using h4)] at h
          by_cases h5 : fBad (openS t)
          · rw [if_pos h5] at h; omega
          · have hu : openS t = t.extract 0 (t.size - 4) := by unfold openS; rw [if_pos h4]
            have h0 : sumL (bl t) = 0#32 := by
              unfold openE at h4
              rw [if_neg (by omega)] at h4
              by_cases hz : sumL (bl t) = 0#32
              · exact hz
              · rw [if_neg hz] at h4; omega
            have hsz := open_size h4 (by omega)
            have hseal := (seal_open t (by omega)).2 h0
            rw [← hu] at hseal
            have hnN : needN t = nN t + 3 := by unfold needN; rw [if_pos h1]
            have hnb : ¬ nBad t := by
              intro hb
              unfold needE at h1
              rw [if_neg (by omega), if_pos hb] at h1
              omega
            unfold nBad nN at hnb
            unfold nN at hnN
            have a1 : at0 (openS t) 1 = at0 t 1 := by rw [hu]; exact at0_take t _ 1 (by omega) (by omega)
            have a2 : at0 (openS t) 2 = at0 t 2 := by rw [hu]; exact at0_take t _ 2 (by omega) (by omega)
            unfold fBad at h5
            obtain ⟨u, hue⟩ : ∃ u, openS t = u := ⟨_, rfl⟩
            rw [hue] at a1 a2 h5 hsz hseal ⊢
            have hf := front_rd u (by omega) (by rw [a1]; omega) (by rw [a1, a2]; omega) (by omega)
            have l0 := at0_lt u 0
            have l3 := at0_lt u 3
            have l4 := at0_lt u 4
            have l7 := at0_lt u 7
            refine ⟨?_, ?_⟩
            · refine chk_ok ?_ ?_
              · unfold Sc.ok rdS; dsimp only; omega
              · show ¬ 4084 < (u.extract 8 u.size).size
                rw [ByteArray.size_extract]; omega
            · unfold bytesS
              rw [hf]; exact hseal
        · rw [if_pos h4] at h; exact absurd h h4
  · rw [if_pos h1] at h; exact absurd h h1
theorem bytes_bl (s : Sc) : bl (bytesS s) = sealL (frontL s ++ bl s.body) := bl_str _
theorem front_len (s : Sc) : (frontL s).length = 8 := rfl
theorem bytes_size (s : Sc) : (bytesS s).size = s.body.size + 12 := by
  rw [← bl_len, bytes_bl, seal_len, List.length_append, front_len, bl_len]; omega
theorem bytes_open (s : Sc) : openE (bytesS s) = 0 ∧ openS (bytesS s) = str (frontL s ++ bl s.body) := by
  have h1 : openE (bytesS s) = 0 := by
    unfold openE
    rw [if_neg (by rw [bytes_size]; omega), bytes_bl, if_pos (open_seal _)]
  refine ⟨h1, ?_⟩
  unfold openS
  rw [if_pos h1]
  apply bl_inj
  rw [ext_bl, bl_str, List.drop_zero, bytes_bl, bytes_size]
  unfold sealL
  rw [List.take_append_of_le_length (by rw [List.length_append, front_len, bl_len]; omega), List.take_of_length_le (by rw [List.length_append, front_len, bl_len]; omega)]
theorem at0_str (l : List UInt8) (i : Nat) (c : UInt8) (h : l[i]? = some c) : at0 (str l) i = c.toNat := at0_bl (by rw [bl_str]; exact h)
/-- Decode of Encode is the section -/
theorem enc_dec {s : Sc} (h : s.chk = 0) : decE (bytesS s) = 0 ∧ decS (bytesS s) = s ∧ needE (bytesS s) = 0 ∧ needN (bytesS s) = s.body.size + 12 := by
  obtain ⟨⟨⟨a1, a2⟩, ⟨b1, b2⟩, ⟨c1, c2⟩, ⟨d1, d2⟩, e1, e2⟩, hb⟩ := chk_zero h
  obtain ⟨o1, o2⟩ := bytes_open s
  have hsz := bytes_size s
  have hp := nb_le s.priv
  have hn := nb_le s.now
  have hU : ∀ (i : Nat) (c : UInt8), (frontL s)[i]? = some c → at0 (str (frontL s ++ bl s.body)) i = c.toNat := fun i c hc => at0_str _ i c (by
    rw [List.getElem?_append_left (List.getElem?_eq_some_iff.1 hc).1]; exact hc)
  have hT : ∀ (i : Nat) (c : UInt8), (frontL s)[i]? = some c → at0 (bytesS s) i = c.toNat := fun i c hc => at0_bl (by
    rw [bytes_bl]
    unfold sealL
    have hl := (List.getElem?_eq_some_iff.1 hc).1
    rw [List.getElem?_append_left (by rw [List.length_append]; omega), List.getElem?_append_left hl]; exact hc)
  have t1 := hT 1 _ rfl
  have t2 := hT 2 _ rfl
  have u0 := hU 0 _ rfl
  have u1 := hU 1 _ rfl
  have u3 := hU 3 _ rfl
  have u4 := hU 4 _ rfl
  have u5 := hU 5 _ rfl
  have u6 := hU 6 _ rfl
  have u7 := hU 7 _ rfl
  simp only [UInt8.toNat_ofNat'] at t1 t2 u0 u1 u3 u4 u5 u6 u7
  have n1 : nN (bytesS s) = s.body.size + 9 := by unfold nN; rw [t1, t2]; omega
  have n2 : ¬ nBad (bytesS s) := by unfold nBad; rw [n1, t1]; omega
  have n3 : needE (bytesS s) = 0 := by unfold needE; rw [if_neg (by omega), if_neg n2]
  have n4 : needN (bytesS s) = s.body.size + 12 := by unfold needN; rw [if_pos n3, n1]
  have hnf : ¬ fBad (openS (bytesS s)) := by rw [o2]; unfold fBad; rw [u5, u6, u7]; omega
  have n5 : decE (bytesS s) = 0 := by
    unfold decE
    rw [if_neg (by simpa using n3), if_neg (by omega), if_neg (by omega), if_neg (by simpa using o1), if_neg hnf]
  refine ⟨n5, ?_, n3, n4⟩
  unfold decS
  rw [if_pos n5, o2]
  have hbody : (str (frontL s ++ bl s.body)).extract 8 (str (frontL s ++ bl s.body)).size = s.body := by
    apply bl_inj
    rw [ext_bl, bl_str, List.drop_append_of_le_length (by rw [front_len]; omega), List.drop_of_length_le (by rw [front_len]; omega), List.nil_append, List.take_of_length_le (by rw [str_size, List.length_append, front_len]; omega)]
  have q1 : (176 + 64 * nb s.priv + (s.body.size + 9) / 256) % 2 ^ 8 / 64 % 2 = nb s.priv := by omega
  have q2 : (192 + 2 * s.version.toNat + nb s.now) % 2 ^ 8 % 2 = nb s.now := by omega
  have db : ∀ b : Bool, decide (nb b = 1) = b := fun b => by cases b <;> rfl
  rw [sc_iff]
  unfold rdS
  dsimp only
  rw [u0, u1, u3, u4, u5, u6, u7, q1, q2, db, db, hbody]
  refine ⟨by omega, rfl, by omega, by omega, rfl, by omega, by omega, rfl⟩
end Go.Proofs.YtlocgilgdnhnlaaGreatDoor.SeP

/- One byte of a section that is turned; the end of one that is missing. -/
namespace Go.Proofs.YtlocgilgdnhnlaaGreatDoor.Turn
open Go Go.RowKit Go.Proofs.YtlocgilgdnhnlaaGreatDoor.Q Go.Proofs.YtlocgilgdnhnlaaGreatDoor.Mem Go.Proofs.YtlocgilgdnhnlaaGreatDoor.Rg Go.Proofs.YtlocgilgdnhnlaaGreatDoor.Ap Go.Proofs.YtlocgilgdnhnlaaGreatDoor.St Go.Proofs.YtlocgilgdnhnlaaGreatDoor.CrP Go.Proofs.YtlocgilgdnhnlaaGreatDoor.CrC Go.Proofs.YtlocgilgdnhnlaaGreatDoor.SeA Go.Proofs.YtlocgilgdnhnlaaGreatDoor.SeC Go.Proofs.YtlocgilgdnhnlaaGreatDoor.SeE Go.Proofs.YtlocgilgdnhnlaaGreatDoor.SeG Go.Proofs.YtlocgilgdnhnlaaGreatDoor.SeEq Go.Proofs.YtlocgilgdnhnlaaGreatDoor.SeI Go.Proofs.YtlocgilgdnhnlaaGreatDoor.SeP Go.Proofs.YtlocgilgdnhnlaaGreatDoor.BiH

theorem add_off (g o n : Nat) : (⟨g, o, none⟩ : Addr).add n = ⟨g, o + n, none⟩ := by unfold Addr.add; split <;> simp_all
theorem turned_bad {s : Sc} {i : Nat} {c d : UInt8} (hc : (bl (bytesS s))[i]? = some c) (hd : c ≠ d) : decE (str ((bl (bytesS s)).set i d)) ≠ 0 ∧ decS (str ((bl (bytesS s)).set i d)) = zeroS := by
  obtain ⟨hlt, hce⟩ := List.getElem?_eq_some_iff.1 hc
  have h0 : sumL (bl (bytesS s)) = 0#32 := by rw [bytes_bl]; exact open_seal _
  have h1 : sumL ((bl (bytesS s)).set i d) ≠ 0#32 := by
    have e1 : bl (bytesS s) = (bl (bytesS s)).take i ++ c :: (bl (bytesS s)).drop (i + 1) := by
      rw [← hce, List.getElem_cons_drop, List.take_append_drop]
    rw [List.set_eq_take_append_cons_drop, if_pos hlt, ← h0]
    conv => rhs; rw [e1]
    exact crc_turned _ _ (Ne.symm hd)
  have h2 : openE (str ((bl (bytesS s)).set i d)) ≠ 0 := by
    unfold openE
    split
    · decide
    · rw [bl_str, if_neg h1]; decide
  have h3 : decE (str ((bl (bytesS s)).set i d)) ≠ 0 := by
    unfold decE
    split
    · assumption
    · split
      · decide
      · split
        · decide
        · exact h2
  exact ⟨h3, (dec_zero rfl h3).2⟩
/-- one byte that is turned -/
theorem byte_turned (c : UInt8) (y : Int) (hy : y.tmod 256 ≠ 0) : ∃ d : UInt8, bits .xor .u8 (c.toNat : Int) (y % 256) = (d.toNat : Int) ∧ c ≠ d := by
  have h2 : y % 256 ≠ 0 := fun h => hy (Int.tmod_eq_zero_of_dvd (Int.dvd_of_emod_eq_zero h))
  obtain ⟨e, he⟩ : ∃ e : UInt8, (e.toNat : Int) = y % 256 := ⟨UInt8.ofNat (y % 256).toNat, by rw [UInt8.toNat_ofNat']; omega⟩
  refine ⟨c ^^^ e, ?_, fun h => h2 ?_⟩
  · rw [← he, CrB.xor_u8, UInt8.toNat_xor]
  · have h3 : e = 0 := by
      have := congrArg (c ^^^ ·) h
      simp only [UInt8.xor_self, ← UInt8.xor_assoc, UInt8.zero_xor] at this
      exact this.symm
    rw [← he, h3]; rfl
theorem any_gen {F : World → Prop} {w : World} (S : World → Prop) (hS : S w) (h : ∀ V, S V → F V) : F w := h w hS
theorem conv_set {W : World} {T : ByteArray} {g i : Nat} (h : ∀ j, j < T.size → W.cell? ⟨g, j, none⟩ = some (.int .u8 (at' T j))) (hi : i < T.size) (r : UInt8) (c : Nat) :
    (convert 87 9 (.slice (some ⟨g, 0, none⟩) T.size c)).run Tryz.prog (W.setCell ⟨g, i, none⟩ (.int .u8 (r.toNat : Int))).drew = .ok (.string (str ((bl T).set i r))) (W.setCell ⟨g, i, none⟩ (.int .u8 (r.toNat : Int))).drew := by
  have hl : ((bl T).set i r).length = T.size := by rw [List.length_set, bl_len]
  have := run_convert_bytes_back (P := Tryz.prog) (W.setCell ⟨g, i, none⟩ (.int .u8 (r.toNat : Int))).drew 87 9 5 ⟨g, 0, none⟩ c ((bl T).set i r) Tryz.underlying87 Tryz.underlying5 Tryz.underlying9 (fun j hj => by
    rw [add_off, Nat.zero_add]
    rw [hl] at hj
    show (W.setCell ⟨g, i, none⟩ (.int .u8 (r.toNat : Int))).cell? _ = _
    by_cases e : i = j
    · subst e
      rw [World.cell?_setCell_same _ _ _ (h i hi)]
      simp
    · rw [World.cell?_setCell_other _ _ _ _ (by intro e'; simp only [Addr.mk.injEq] at e'; omega), h j hj, at_of (List.getElem?_eq_getElem (by rw [bl_len]; exact hj)), List.getElem_set_ne e])
  rw [hl] at this
  exact this
/-- the beginning of a section is none -/
theorem cut_bad {s : Sc} (h : s.chk = 0) {i : Nat} (hi : i < (bytesS s).size) : decE ((bytesS s).extract 0 i) ≠ 0 := by
  obtain ⟨h1, h2, h3, h4⟩ := enc_dec h
  have hsz := bytes_size s
  have hs2 : ((bytesS s).extract 0 i).size = i := by rw [ByteArray.size_extract]; omega
  intro h0
  by_cases h5 : 3 ≤ i
  · have a1 : at0 ((bytesS s).extract 0 i) 1 = at0 (bytesS s) 1 := at0_take _ _ 1 (by omega) (by omega)
    have a2 : at0 ((bytesS s).extract 0 i) 2 = at0 (bytesS s) 2 := at0_take _ _ 2 (by omega) (by omega)
    have hN : nN ((bytesS s).extract 0 i) = nN (bytesS s) := by unfold nN; rw [a1, a2]
    have hB : nBad ((bytesS s).extract 0 i) ↔ nBad (bytesS s) := by unfold nBad; rw [a1, hN]
    have hnb : ¬ nBad (bytesS s) := fun hb => by
      unfold needE at h3
      rw [if_neg (by omega), if_pos hb] at h3
      omega
    have hn : needE ((bytesS s).extract 0 i) = 0 := by
      unfold needE
      rw [if_neg (by rw [hs2]; omega), if_neg (fun h => hnb (hB.1 h))]
    have hm : needN ((bytesS s).extract 0 i) = needN (bytesS s) := by
      unfold needN
      rw [if_pos hn, if_pos h3, hN]
    unfold decE at h0
    rw [hn, if_neg (by decide), hm, h4, hs2, if_pos (by omega)] at h0
    omega
  · unfold decE at h0
    have hn : needE ((bytesS s).extract 0 i) = 10 := by unfold needE; rw [if_pos (by rw [hs2]; omega)]
    rw [hn, if_pos (by decide)] at h0
    omega
end Go.Proofs.YtlocgilgdnhnlaaGreatDoor.Turn
