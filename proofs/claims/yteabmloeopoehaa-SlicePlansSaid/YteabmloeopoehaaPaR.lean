/- strings.Repeat and Builder.Len, laid. -/
import Derived.Test.YteabmloeopoehaaBlS
import Derived.Shelf.Strings.Repeat
namespace Go.Proofs.Yteabmloeopoehaa.PaR
open Go Go.Shelf Go.RowKit Go.Proofs.Yteabmloeopoehaa.St Go.Proofs.Yteabmloeopoehaa.BlS

def lays105_ren : Ren := ⟨fun | 99 => 38 | 105 => 32 | 165 => 39 | 166 => 40 | 169 => 42 | 170 => 41 | 206 => 46 | 212 => 37 | 240 => 47 | 241 => 48 | 263 => 44 | 264 => 45 | 276 => 51 | 277 => 52 | n => n, fun | 0 => 0 | 3 => 3 | 4 => 4 | 5 => 5 | 9 => 9 | 20 => 20 | 37 => 56 | 46 => 87 | 51 => 78 | 53 => 85 | 70 => 91 | 72 => 93 | 75 => 96 | 76 => 97 | 80 => 100 | 109 => 88 | 127 => 110 | 146 => 106 | 148 => 108 | 164 => 112 | n => n, fun | n => n⟩
theorem lays105 : Lays.n105 Try.prog lays105_ren := {
  mixed := by kernel_rfl
  f99 := Try.func38.trans (congrArg some (by kernel_rfl))
  f105 := Try.func32.trans (congrArg some (by kernel_rfl))
  f165 := Try.func39.trans (congrArg some (by kernel_rfl))
  f166 := Try.func40.trans (congrArg some (by kernel_rfl))
  f169 := Try.func42.trans (congrArg some (by kernel_rfl))
  f170 := Try.func41.trans (congrArg some (by kernel_rfl))
  f206 := Try.func46.trans (congrArg some (by kernel_rfl))
  f212 := Try.func37.trans (congrArg some (by kernel_rfl))
  f240 := Try.func47.trans (congrArg some (by kernel_rfl))
  f241 := Try.func48.trans (congrArg some (by kernel_rfl))
  f263 := Try.func44.trans (congrArg some (by kernel_rfl))
  f264 := Try.func45.trans (congrArg some (by kernel_rfl))
  f276 := Try.func51.trans (congrArg some (by kernel_rfl))
  f277 := Try.func52.trans (congrArg some (by kernel_rfl))
  t0 := Try.underlying0
  a0 := Try.isAgg0
  z0 := Try.sizeOf0
  v0 := Try.zeroValue0
  t3 := Try.underlying3
  a3 := Try.isAgg3
  z3 := Try.sizeOf3
  v3 := Try.zeroValue3
  t4 := Try.underlying4
  a4 := Try.isAgg4
  z4 := Try.sizeOf4
  v4 := Try.zeroValue4
  t5 := Try.underlying5
  a5 := Try.isAgg5
  z5 := Try.sizeOf5
  v5 := Try.zeroValue5
  t9 := Try.underlying9
  a9 := Try.isAgg9
  z9 := Try.sizeOf9
  v9 := Try.zeroValue9
  t20 := Try.underlying20
  a20 := Try.isAgg20
  z20 := Try.sizeOf20
  v20 := Try.zeroValue20
  t37 := Try.underlying56
  a37 := Try.isAgg56
  z37 := Try.sizeOf56
  v37 := Try.zeroValue56
  t46 := Try.underlying87
  a46 := Try.isAgg87
  z46 := Try.sizeOf87
  v46 := Try.zeroValue87
  t51 := Try.underlying78
  a51 := Try.isAgg78
  z51 := Try.sizeOf78
  v51 := Try.zeroValue78
  t53 := Try.underlying85
  a53 := Try.isAgg85
  z53 := Try.sizeOf85
  v53 := Try.zeroValue85
  t70 := Try.underlying91
  a70 := Try.isAgg91
  z70 := Try.sizeOf91
  v70 := Try.zeroValue91
  t72 := Try.underlying93
  a72 := Try.isAgg93
  z72 := Try.sizeOf93
  v72 := Try.zeroValue93
  t75 := Try.underlying96
  a75 := Try.isAgg96
  z75 := Try.sizeOf96
  v75 := Try.zeroValue96
  t76 := Try.underlying97
  a76 := Try.isAgg97
  z76 := Try.sizeOf97
  v76 := Try.zeroValue97
  t109 := Try.underlying88
  a109 := Try.isAgg88
  z109 := Try.sizeOf88
  v109 := Try.zeroValue88
  t127 := Try.underlying110
  a127 := Try.isAgg110
  z127 := Try.sizeOf110
  v127 := Try.zeroValue110
  t146 := Try.underlying106
  a146 := Try.isAgg106
  z146 := Try.sizeOf106
  v146 := Try.zeroValue106
  t148 := Try.underlying108
  a148 := Try.isAgg108
  z148 := Try.sizeOf108
  v148 := Try.zeroValue108
  t164 := Try.underlying112
  a164 := Try.isAgg112
  z164 := Try.sizeOf112
  v164 := Try.zeroValue112 }
theorem extra : Builder.Extra Try.prog lays105_ren := {
  sizeBuilder := by kernel_rfl
  liesBuilder := by kernel_rfl
  t5 := Try.underlying5
  a5 := Try.isAgg5
  z5 := Try.sizeOf5
  v5 := Try.zeroValue5
  infoByte := by kernel_rfl
  cellsByte := by kernel_rfl
  sizeByte := by kernel_rfl
  neB5 := by decide }
theorem lays170 : Lays.n170 Try.prog lays105_ren := { lays105 with }
theorem len_any (B b : Nat) (bs : List Value) (w : World) (h : IsB B b bs w) :
    Calls Try.prog 41 #[.pointer (some ⟨b, 0, none⟩)] w fun e w' => e = .returned (.int .i64 bs.length) ∧ w' = w := Any.Builder_Len lays170 B b bs w h
/-- bytes 255 -/
def ff (k : Nat) : ByteArray := str (List.replicate k 255)
theorem ff_any (k : Nat) (w : World) (hk : k ≤ 140737488355328) :
    Calls Try.prog 32 #[.string ⟨#[255]⟩, .int .i64 k] w fun e w' => e = .returned (.string (ff k)) ∧ Below w.heap.size w w' := by
  refine (Any.strings_Repeat lays105 extra ⟨#[255]⟩ k w (by omega) (by show 1 * k ≤ _; omega)).mono fun e w' ⟨h1, h2⟩ => ⟨?_, h2⟩
  rw [h1]
  have : Lib.repeatL (ByteArray.mk #[255]).data.toList k = List.replicate k 255 := by simpa using Lib.repeatL_replicate 255 1 k
  rw [this]
  rfl
end Go.Proofs.Yteabmloeopoehaa.PaR
