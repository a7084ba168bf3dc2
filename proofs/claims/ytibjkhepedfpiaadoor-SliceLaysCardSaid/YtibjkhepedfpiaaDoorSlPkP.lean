namespace Go.Proofs.YtibjkhepedfpiaaDoor.PkP
def b8 (n:Nat):UInt8:=UInt8.ofNat n
theorem b8_nat {n:Nat} (h:n<256):(b8 n).toNat=n:=by unfold b8;rw[UInt8.toNat_ofNat'];omega
def pkB (pid:Nat) (start:Bool) (count:Nat) (body:List UInt8):List UInt8:=
 [71,b8 ((if start then 64 else 0)+pid/256),b8 (pid%256),b8 ((if body.length=184 then 16 else 48)+count)]++(if body.length=184 then[]else[0])++body
theorem pkB_len {pid count:Nat} {start:Bool} {body:List UInt8} (h:body.length=184∨body.length=183):(pkB pid start count body).length=188:=by
 unfold pkB;rcases h with h|h<;>simp[h]
theorem pkB_front {pid count:Nat} {start:Bool} {body:List UInt8} (hp:pid<8192) (hc:count<16) (_h:body.length=184∨body.length=183):
 ((pkB pid start count body).getD 1 0).toNat%32*256+((pkB pid start count body).getD 2 0).toNat=pid∧((pkB pid start count body).getD 1 0).toNat/64%2=(if start then 1 else 0)∧((pkB pid start count body).getD 1 0).toNat/128=0∧
 ((pkB pid start count body).getD 3 0).toNat%16=count∧((pkB pid start count body).getD 3 0).toNat/16%4=(if body.length=184 then 1 else 3):=by
 have e1:((pkB pid start count body).getD 1 0).toNat=(if start then 64 else 0)+pid/256:=by
  show(b8 _).toNat=_;exact b8_nat (by split<;>omega)
 have e2:((pkB pid start count body).getD 2 0).toNat=pid%256:=by
  show(b8 _).toNat=_;exact b8_nat (by omega)
 have e3:((pkB pid start count body).getD 3 0).toNat=(if body.length=184 then 16 else 48)+count:=by
  show(b8 _).toNat=_;exact b8_nat (by split<;>omega)
 rw[e1,e2,e3]
 cases start<;>by_cases hb:body.length=184<;>simp only[hb,if_true,if_false,Bool.false_eq_true]<;>omega
theorem pkB_body {pid count:Nat} {start:Bool} {body:List UInt8}:(pkB pid start count body).drop (if body.length=184 then 4 else 5)=body:=by
 unfold pkB
 split<;>simp
end Go.Proofs.YtibjkhepedfpiaaDoor.PkP
