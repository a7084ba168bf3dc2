import Derived.Test.YtibjkhepedfpiaaDoorSlBlS
import Derived.Shelf.Strings.Repeat
namespace Go.Proofs.YtibjkhepedfpiaaDoor.PaR
open Go Go.Shelf Go.RowKit St BlS
def lays105_ren:Ren:=⟨fun|99=>55|105=>37|165=>56|166=>21|169=>25|170=>20|206=>64|212=>54|240=>35|241=>65|263=>62|264=>63|276=>47|277=>69|n=>n,fun|0=>0|3=>3|4=>4|5=>5|9=>9|20=>20|37=>42|46=>115|51=>102|53=>112|70=>59|72=>61|75=>65|76=>66|80=>68|109=>116|127=>98|146=>126|148=>128|164=>104|n=>n,fun|n=>n⟩
theorem lays105:Lays.n105 Tryd.prog lays105_ren:={
 mixed:=by kernel_rfl
 f99:=Tryd.func55.trans (congrArg some (by kernel_rfl))
 f105:=Tryd.func37.trans (congrArg some (by kernel_rfl))
 f165:=Tryd.func56.trans (congrArg some (by kernel_rfl))
 f166:=Tryd.func21.trans (congrArg some (by kernel_rfl))
 f169:=Tryd.func25.trans (congrArg some (by kernel_rfl))
 f170:=Tryd.func20.trans (congrArg some (by kernel_rfl))
 f206:=Tryd.func64.trans (congrArg some (by kernel_rfl))
 f212:=Tryd.func54.trans (congrArg some (by kernel_rfl))
 f240:=Tryd.func35.trans (congrArg some (by kernel_rfl))
 f241:=Tryd.func65.trans (congrArg some (by kernel_rfl))
 f263:=Tryd.func62.trans (congrArg some (by kernel_rfl))
 f264:=Tryd.func63.trans (congrArg some (by kernel_rfl))
 f276:=Tryd.func47.trans (congrArg some (by kernel_rfl))
 f277:=Tryd.func69.trans (congrArg some (by kernel_rfl))
 t0:=Tryd.underlying0
 a0:=Tryd.isAgg0
 z0:=Tryd.sizeOf0
 v0:=Tryd.zeroValue0
 t3:=Tryd.underlying3
 a3:=Tryd.isAgg3
 z3:=Tryd.sizeOf3
 v3:=Tryd.zeroValue3
 t4:=Tryd.underlying4
 a4:=Tryd.isAgg4
 z4:=Tryd.sizeOf4
 v4:=Tryd.zeroValue4
 t5:=Tryd.underlying5
 a5:=Tryd.isAgg5
 z5:=Tryd.sizeOf5
 v5:=Tryd.zeroValue5
 t9:=Tryd.underlying9
 a9:=Tryd.isAgg9
 z9:=Tryd.sizeOf9
 v9:=Tryd.zeroValue9
 t20:=Tryd.underlying20
 a20:=Tryd.isAgg20
 z20:=Tryd.sizeOf20
 v20:=Tryd.zeroValue20
 t37:=Tryd.underlying42
 a37:=Tryd.isAgg42
 z37:=Tryd.sizeOf42
 v37:=Tryd.zeroValue42
 t46:=Tryd.underlying115
 a46:=Tryd.isAgg115
 z46:=Tryd.sizeOf115
 v46:=Tryd.zeroValue115
 t51:=Tryd.underlying102
 a51:=Tryd.isAgg102
 z51:=Tryd.sizeOf102
 v51:=Tryd.zeroValue102
 t53:=Tryd.underlying112
 a53:=Tryd.isAgg112
 z53:=Tryd.sizeOf112
 v53:=Tryd.zeroValue112
 t70:=Tryd.underlying59
 a70:=Tryd.isAgg59
 z70:=Tryd.sizeOf59
 v70:=Tryd.zeroValue59
 t72:=Tryd.underlying61
 a72:=Tryd.isAgg61
 z72:=Tryd.sizeOf61
 v72:=Tryd.zeroValue61
 t75:=Tryd.underlying65
 a75:=Tryd.isAgg65
 z75:=Tryd.sizeOf65
 v75:=Tryd.zeroValue65
 t76:=Tryd.underlying66
 a76:=Tryd.isAgg66
 z76:=Tryd.sizeOf66
 v76:=Tryd.zeroValue66
 t109:=Tryd.underlying116
 a109:=Tryd.isAgg116
 z109:=Tryd.sizeOf116
 v109:=Tryd.zeroValue116
 t127:=Tryd.underlying98
 a127:=Tryd.isAgg98
 z127:=Tryd.sizeOf98
 v127:=Tryd.zeroValue98
 t146:=Tryd.underlying126
 a146:=Tryd.isAgg126
 z146:=Tryd.sizeOf126
 v146:=Tryd.zeroValue126
 t148:=Tryd.underlying128
 a148:=Tryd.isAgg128
 z148:=Tryd.sizeOf128
 v148:=Tryd.zeroValue128
 t164:=Tryd.underlying104
 a164:=Tryd.isAgg104
 z164:=Tryd.sizeOf104
 v164:=Tryd.zeroValue104}
theorem extra:Builder.Extra Tryd.prog lays105_ren:={
 sizeBuilder:=by kernel_rfl
 liesBuilder:=by kernel_rfl
 t5:=Tryd.underlying5
 a5:=Tryd.isAgg5
 z5:=Tryd.sizeOf5
 v5:=Tryd.zeroValue5
 infoByte:=by kernel_rfl
 cellsByte:=by kernel_rfl
 sizeByte:=by kernel_rfl
 neB5:=by decide}
theorem lays170:Lays.n170 Tryd.prog lays105_ren:={lays105 with}
theorem len_any (B b:Nat) (bs:List Value) (w:World) (h:IsB B b bs w):
 Calls Tryd.prog 20 #[.pointer (some ⟨b,0,none⟩)] w fun e w'=>e= .returned (.int .i64 bs.length)∧w'=w:=Any.Builder_Len lays170 B b bs w h
def ff (k:Nat):ByteArray:=str (List.replicate k 255)
theorem ff_any (k:Nat) (w:World) (hk:k≤140737488355328):
 Calls Tryd.prog 37 #[.string ⟨#[255]⟩,.int .i64 k] w fun e w'=>e= .returned (.string (ff k))∧Below w.heap.size w w':=by
 refine(Any.strings_Repeat lays105 extra ⟨#[255]⟩ k w (by omega) (by show 1*k≤_;omega)).mono fun e w' ⟨h1,h2⟩=>⟨?_,h2⟩;rw[h1];have:Lib.repeatL (ByteArray.mk #[255]).data.toList k=List.replicate k 255:=by simpa using Lib.repeatL_replicate 255 1 k
 rw[this];rfl
end Go.Proofs.YtibjkhepedfpiaaDoor.PaR
