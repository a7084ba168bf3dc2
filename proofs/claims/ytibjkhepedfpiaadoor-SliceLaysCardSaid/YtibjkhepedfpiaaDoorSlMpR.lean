import Derived.Test.YtibjkhepedfpiaaDoorSlMpC
namespace Go.Proofs.YtibjkhepedfpiaaDoor.MpR
open Go Go.RowKit Q Mem Rg Ap St Ints BiP CrC CrD SeA SeC SeE SeEq SeI SeK SeP TmA TmB MpA MpC DgC DgG
set_option maxRecDepth 100000 in
theorem text_any (a:Option Addr) (c m:Nat) (L:List Int) (w:World) (hm:L.length=m) (hl:L.length≤1000) (hL:Ints w a L) (hv:inB 255 L=true):
 Calls Tryd.prog 44 #[.slice a m c] w fun e w'=>e= .returned (.string (strOfNums L))∧Below w.heap.size w w':=by
 subst hm;have HL:=Lib.hid hL;clear hL
 go_enter Tryd.func44,Tryd.ntmps44
 go_wp2_with fail
 go_loopw [3,4] (fun out i wr=> ∃(k:Nat) (b:ByteArray),k≤L.length∧out= .string b∧i= .int .i64 k∧Hid (b=strOfNums (L.take k))∧b.size≤k∧Below w.heap.size w wr) (fun _ i _=>L.length-(intOf i).toNat)
 case atStart=>exact⟨0,nob,by omega,rfl,rfl,Lib.hid rfl,Nat.zero_le _,Below.refl _ _⟩
 case round=>
  obtain⟨k,b,hk,rfl,rfl,hI,hbs,hb⟩:=hrel;by_cases hkl:k<L.length
  ·have t0:decide (k<L.length)=true:=by simpa using hkl
   obtain⟨x,hx⟩: ∃x,L[k]? =some x:=⟨L[k],List.getElem?_eq_getElem hkl⟩
   have hx1:0≤x∧x≤255:=by
    have:=List.all_eq_true.1 hv x (List.mem_of_getElem? hx);simpa [in1]using this
   obtain⟨b1,o1,rfl,l1,c1⟩:=HL.out.below (Nat.le_refl _) hb k x hx;have q2:IntKind.u8.wrap x=x:=by rw[IntKind.wrap_u8];omega
   have hcv:=conv_new wr [x] 1 wr.heap.size #[.int .u8 x] rfl rfl rfl;have hadd: ∀U:World,(Op.stringOp .add b (strOfNums [x])).run Tryd.prog U= .ok (.string (b++strOfNums [x])) U:=fun U=>run_string_add_sum U _ _ (by rw[son_size];simp only[List.length_cons,List.length_nil];omega)
   have hnew:b++strOfNums [x]=strOfNums (L.take (k+1)):=by
    rw[hI.out,son_append,List.take_add_one,hx];rfl
   have hbs2:(b++strOfNums [x]).size≤k+1:=by rw[ByteArray.size_append,son_size];simp only[List.length_cons,List.length_nil];omega
   have HN:=Lib.hid hnew;have hb2:=hb.alloc hb.size (.cells #[.int .u8 x] 5);clear hnew hx hx1 hb hv
   go_wp2_with fail
   go_roundw
   case rel=>exact⟨k+1,_,by omega,rfl,by go_num,HN,hbs2,hb2⟩
   case measure=>simp[intOf];omega
  ·obtain rfl:k=L.length:=by omega
   have t0:decide (L.length<L.length)=false:=by simp
   have HB:=Lib.hid (hI.out.trans (by rw[List.take_length]));clear hI
   go_wp2_with fail
   go_ret;exact⟨by rw[HB.out];rfl,hb⟩
set_option maxRecDepth 100000
end Go.Proofs.YtibjkhepedfpiaaDoor.MpR
