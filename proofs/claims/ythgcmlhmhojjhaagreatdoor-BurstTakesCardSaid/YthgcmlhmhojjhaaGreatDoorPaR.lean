/- strings.Repeat and Builder.Len, laid. -/
import Derived.Test.YthgcmlhmhojjhaaGreatDoorBlS
import Derived.Shelf.Strings.Repeat
namespace Go.Proofs.YthgcmlhmhojjhaaGreatDoor.PaR
open Go Go.Shelf Go.RowKit Go.Proofs.YthgcmlhmhojjhaaGreatDoor.St Go.Proofs.YthgcmlhmhojjhaaGreatDoor.BlS

def lays105_ren : Ren := ⟨fun | 99 => 125 | 105 => 99 | 165 => 110 | 166 => 111 | 169 => 112 | 170 => 126 | 206 => 150 | 212 => 124 | 240 => 134 | 241 => 135 | 263 => 148 | 264 => 149 | 276 => 159 | 277 => 160 | n => n, fun | 0 => 0 | 3 => 3 | 4 => 4 | 5 => 5 | 9 => 9 | 20 => 20 | 37 => 110 | 46 => 166 | 51 => 213 | 53 => 176 | 70 => 196 | 72 => 198 | 75 => 201 | 76 => 202 | 80 => 178 | 109 => 218 | 127 => 225 | 146 => 238 | 148 => 240 | 164 => 248 | n => n, fun | n => n⟩
theorem lays105 : Lays.n105 Tryz.prog lays105_ren := {
  mixed := by kernel_rfl
  f99 := Tryz.func125.trans (congrArg some (by kernel_rfl))
  f105 := Tryz.func99.trans (congrArg some (by kernel_rfl))
  f165 := Tryz.func110.trans (congrArg some (by kernel_rfl))
  f166 := Tryz.func111.trans (congrArg some (by kernel_rfl))
  f169 := Tryz.func112.trans (congrArg some (by kernel_rfl))
  f170 := Tryz.func126.trans (congrArg some (by kernel_rfl))
  f206 := Tryz.func150.trans (congrArg some (by kernel_rfl))
  f212 := Tryz.func124.trans (congrArg some (by kernel_rfl))
  f240 := Tryz.func134.trans (congrArg some (by kernel_rfl))
  f241 := Tryz.func135.trans (congrArg some (by kernel_rfl))
  f263 := Tryz.func148.trans (congrArg some (by kernel_rfl))
  f264 := Tryz.func149.trans (congrArg some (by kernel_rfl))
  f276 := Tryz.func159.trans (congrArg some (by kernel_rfl))
  f277 := Tryz.func160.trans (congrArg some (by kernel_rfl))
  t0 := Tryz.underlying0
  a0 := Tryz.isAgg0
  z0 := Tryz.sizeOf0
  v0 := Tryz.zeroValue0
  t3 := Tryz.underlying3
  a3 := Tryz.isAgg3
  z3 := Tryz.sizeOf3
  v3 := Tryz.zeroValue3
  t4 := Tryz.underlying4
  a4 := Tryz.isAgg4
  z4 := Tryz.sizeOf4
  v4 := Tryz.zeroValue4
  t5 := Tryz.underlying5
  a5 := Tryz.isAgg5
  z5 := Tryz.sizeOf5
  v5 := Tryz.zeroValue5
  t9 := Tryz.underlying9
  a9 := Tryz.isAgg9
  z9 := Tryz.sizeOf9
  v9 := Tryz.zeroValue9
  t20 := Tryz.underlying20
  a20 := Tryz.isAgg20
  z20 := Tryz.sizeOf20
  v20 := Tryz.zeroValue20
  t37 := Tryz.underlying110
  a37 := Tryz.isAgg110
  z37 := Tryz.sizeOf110
  v37 := Tryz.zeroValue110
  t46 := Tryz.underlying166
  a46 := Tryz.isAgg166
  z46 := Tryz.sizeOf166
  v46 := Tryz.zeroValue166
  t51 := Tryz.underlying213
  a51 := Tryz.isAgg213
  z51 := Tryz.sizeOf213
  v51 := Tryz.zeroValue213
  t53 := Tryz.underlying176
  a53 := Tryz.isAgg176
  z53 := Tryz.sizeOf176
  v53 := Tryz.zeroValue176
  t70 := Tryz.underlying196
  a70 := Tryz.isAgg196
  z70 := Tryz.sizeOf196
  v70 := Tryz.zeroValue196
  t72 := Tryz.underlying198
  a72 := Tryz.isAgg198
  z72 := Tryz.sizeOf198
  v72 := Tryz.zeroValue198
  t75 := Tryz.underlying201
  a75 := Tryz.isAgg201
  z75 := Tryz.sizeOf201
  v75 := Tryz.zeroValue201
  t76 := Tryz.underlying202
  a76 := Tryz.isAgg202
  z76 := Tryz.sizeOf202
  v76 := Tryz.zeroValue202
  t109 := Tryz.underlying218
  a109 := Tryz.isAgg218
  z109 := Tryz.sizeOf218
  v109 := Tryz.zeroValue218
  t127 := Tryz.underlying225
  a127 := Tryz.isAgg225
  z127 := Tryz.sizeOf225
  v127 := Tryz.zeroValue225
  t146 := Tryz.underlying238
  a146 := Tryz.isAgg238
  z146 := Tryz.sizeOf238
  v146 := Tryz.zeroValue238
  t148 := Tryz.underlying240
  a148 := Tryz.isAgg240
  z148 := Tryz.sizeOf240
  v148 := Tryz.zeroValue240
  t164 := Tryz.underlying248
  a164 := Tryz.isAgg248
  z164 := Tryz.sizeOf248
  v164 := Tryz.zeroValue248 }
theorem extra : Builder.Extra Tryz.prog lays105_ren := {
  sizeBuilder := by kernel_rfl
  liesBuilder := by kernel_rfl
  t5 := Tryz.underlying5
  a5 := Tryz.isAgg5
  z5 := Tryz.sizeOf5
  v5 := Tryz.zeroValue5
  infoByte := by kernel_rfl
  cellsByte := by kernel_rfl
  sizeByte := by kernel_rfl
  neB5 := by decide }
theorem lays170 : Lays.n170 Tryz.prog lays105_ren := { lays105 with }
theorem len_any (B b : Nat) (bs : List Value) (w : World) (h : IsB B b bs w) :
    Calls Tryz.prog 126 #[.pointer (some ⟨b, 0, none⟩)] w fun e w' => e = .returned (.int .i64 bs.length) ∧ w' = w := Any.Builder_Len lays170 B b bs w h
/-- bytes 255 -/
def ff (k : Nat) : ByteArray := str (List.replicate k 255)
theorem ff_any (k : Nat) (w : World) (hk : k ≤ 140737488355328) :
    Calls Tryz.prog 99 #[.string ⟨#[255]⟩, .int .i64 k] w fun e w' => e = .returned (.string (ff k)) ∧ Below w.heap.size w w' := by
  refine (Any.strings_Repeat lays105 extra ⟨#[255]⟩ k w (by omega) (by show 1 * k ≤ _; omega)).mono fun e w' ⟨h1, h2⟩ => ⟨?_, h2⟩
  rw [h1]
  have : Lib.repeatL (ByteArray.mk #[255]).data.toList k = List.replicate k 255 := by simpa using Lib.repeatL_replicate 255 1 k
  rw [this]
  rfl
end Go.Proofs.YthgcmlhmhojjhaaGreatDoor.PaR
