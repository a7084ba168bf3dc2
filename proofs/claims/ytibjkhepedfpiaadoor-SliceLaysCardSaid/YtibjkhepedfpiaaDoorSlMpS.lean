import Derived.Test.YtibjkhepedfpiaaDoorSlMpR
namespace Go.Proofs.YtibjkhepedfpiaaDoor.MpS
open Go Go.RowKit Q Mem Rg Ap St Ints BiP CrC CrD SeA SeC SeE SeEq SeI SeK SeP TmA TmB MpA MpC DgC MpR
set_option maxRecDepth 100000
def mnums (p:Mp):List Int:=[62,176+(13+(p.text.size:Int))/256,(13+(p.text.size:Int))%256,p.mac/256,p.mac%256,193,0,0,p.times.delta/16,16*(p.times.delta%16)+p.times.at_/65536+8*(nb p.times.table:Int)+4*(nb p.times.frame:Int),p.times.at_/256%256,p.times.at_%256]
theorem mnums_in {p:Mp} (h:p.chk=0):inB 255 (mnums p)=true:=by
 obtain⟨⟨a1,a2⟩,h2,h3⟩:=mchk_zero h;have h5:=dg_size h3;have n1:=nb_le p.times.table;have n2:=nb_le p.times.frame;unfold Ti.ok at h2;simp only[mnums,inB,List.all_cons,List.all_nil,in1,Bool.and_eq_true,decide_eq_true_eq,Bool.and_true];omega
theorem mnums_bytes {p:Mp} (h:p.chk=0):bytesS p.sec=str (sealL (bl (strOfNums (mnums p)++p.text))):=by
 obtain⟨⟨a1,a2⟩,h2,h3⟩:=mchk_zero h;have h5:=dg_size h3;have n1:=nb_le p.times.table;have n2:=nb_le p.times.frame;have he:encT p.times=str (tmL p.times):=by unfold encT;rw[if_pos (tchk_ok h2)]
 unfold Ti.ok at h2;unfold bytesS
 congr 2
 have hb:bl p.sec.body=tmL p.times++bl p.text:=by
  show bl (encT p.times++p.text)=_;rw[he,bl_app,bl_str]
 have hs:p.sec.body.size=4+p.text.size:=by rw[←bl_len,hb,List.length_append,tm_len,bl_len]
 rw[hb,bl_app,nums_str,bl_str,←List.append_assoc]
 congr 1
 unfold frontL mnums tmL;rw[hs];simp only[Mp.sec,List.map_cons,List.map_nil,List.cons_append,List.nil_append];have e0:nb true=1:=rfl;have e1:nb false=0:=rfl;rw[e0,e1];have q1:(176+(13+(p.text.size:Int))/256).toNat=176+64*0+(4+p.text.size+9)/256:=by omega
 have q2:((13+(p.text.size:Int))%256).toNat=(4+p.text.size+9)%256:=by omega
 have q3:(p.mac/256).toNat=p.mac.toNat/256:=by omega
 have q4:(p.mac%256).toNat=p.mac.toNat%256:=by omega
 have q5:(p.times.delta/16).toNat=p.times.delta.toNat/16:=by omega
 have q6:(16*(p.times.delta%16)+p.times.at_/65536+8*(nb p.times.table:Int)+4*(nb p.times.frame:Int)).toNat=p.times.delta.toNat%16*16+nb p.times.table*8+nb p.times.frame*4+p.times.at_.toNat/65536:=by omega
 have q7:(p.times.at_/256%256).toNat=p.times.at_.toNat/256%256:=by omega
 have q8:(p.times.at_%256).toNat=p.times.at_.toNat%256:=by omega
 rw[q1,q2,q3,q4,q5,q6,q7,q8];rfl
set_option maxHeartbeats 3200000 in
theorem rmbytes_any (p:Mp) (w:World) (h:p.chk=0):Calls Tryd.prog 31 #[.agg p.vals] w fun e w'=>e= .returned (.string (bytesS p.sec))∧Below w.heap.size w w':=by
 have hin:=mnums_in h;have hX:=mnums_bytes h;have hlen:(mnums p).length=12:=rfl;have hF:mnums p=[62,176+(13+(p.text.size:Int))/256,(13+(p.text.size:Int))%256,p.mac/256,p.mac%256,193,0,0,p.times.delta/16,16*(p.times.delta%16)+p.times.at_/65536+8*(nb p.times.table:Int)+4*(nb p.times.frame:Int),p.times.at_/256%256,p.times.at_%256]:=rfl;have HTX:=Lib.hid (fun V a (hI:Ints V a (mnums p))=>text_any a 12 12 (mnums p) V rfl (by rw[hlen];omega) hI hin);obtain⟨⟨a1,a2⟩,h2,h3⟩:=mchk_zero h;have h5:=dg_size h3;have n1:=nb_le p.times.table;have n2:=nb_le p.times.frame;obtain⟨⟨d1,d2⟩,e1,e2⟩:=h2;have HB:=bk1 w 86 p.vals;unfold Mp.vals at HB ⊢;obtain⟨S,hS⟩: ∃S,bytesS p.sec=S:=⟨_,rfl⟩;rw[hS]at hX ⊢;have hadd:=fun V=>add_at (strOfNums (mnums p)) p.text (by rw[son_size,hlen];omega) V;have kl:=fun V=>rseal_any (strOfNums (mnums p)++p.text) V (by rw[ByteArray.size_append,son_size,hlen];omega);rw[←hX]at kl;obtain⟨FN,hFN⟩: ∃FN,mnums p=FN:=⟨_,rfl⟩;rw[hFN]at HTX hF hadd kl;obtain⟨Z,hZ⟩: ∃Z,strOfNums FN=Z:=⟨_,rfl⟩;rw[hZ]at HTX hadd kl;obtain⟨pa,⟨d,ta,fr,a⟩,te⟩:=p;dsimp only at*;obtain⟨Y,hY⟩: ∃Y,Z++te=Y:=⟨_,rfl⟩;rw[hY]at hadd kl;obtain⟨M,hM⟩: ∃M:Nat,te.size=M:=⟨_,rfl⟩;rw[hM]at hF;obtain⟨TH,hTH⟩: ∃TH,16*(d%16)+a/65536+8*(nb ta:Int)+4*(nb fr:Int)=TH:=⟨_,rfl⟩;rw[hTH]at hF;have HFN:=Lib.hid hF;have HB:=Lib.hid HB;have hm:(M:Int)≤4080:=by omega
 obtain⟨T0,hT0⟩: ∃T0,16*(d%16)+a/65536=T0:=⟨_,rfl⟩;rw[hT0]at hTH;have ht0:0≤T0∧T0≤243:=by omega
 obtain⟨tz1,tz2⟩:=ht0;clear hX hFN hZ hY hF hS hin hlen h h3 h5 n1 n2
 cases ta<;>cases fr
 case false.false=>
  obtain rfl:TH=T0:=by rw[←hTH];simp[nb]
  clear hTH;have c0:=fun pX=>Blk.cell (blk_ext (HB.out.nth 0 rfl) pX) 0 (v:= .int .i64 pa) rfl;have c1:=fun pX=>Blk.cell (blk_ext (HB.out.nth 0 rfl) pX) 1 (v:= .int .i64 d) rfl;have c2:=fun pX=>Blk.cell (blk_ext (HB.out.nth 0 rfl) pX) 2 (v:= .bool false) rfl;have c3:=fun pX=>Blk.cell (blk_ext (HB.out.nth 0 rfl) pX) 3 (v:= .bool false) rfl;have c4:=fun pX=>Blk.cell (blk_ext (HB.out.nth 0 rfl) pX) 4 (v:= .int .i64 a) rfl;have c5:=fun pX=>Blk.cell (blk_ext (HB.out.nth 0 rfl) pX) 5 (v:= .string te) rfl
  go_enter Tryd.func31,Tryd.ntmps31
  go_wp2_with fail
  refine Go.Proofs.YtibjkhepedfpiaaDoor.Rg.region_new_all [(25,newS 12 3 #[.int .i64 62,.int .i64 (176+(13+(M:Int))/256),.int .i64 ((13+(M:Int))%256),.int .i64 (pa/256),.int .i64 (pa%256),.int .i64 193,.int .i64 0,.int .i64 0,.int .i64 (d/16),.int .i64 (TH),.int .i64 (a/256%256),.int .i64 (a%256)] 0),(26,val (.string Z)),(30,val (.string S))] (by kernel_rfl) (by kernel_rfl) (by kernel_rfl) (lk_cons newS_inh (lk_cons val_inh (lk_cons val_inh lk_nil))) (lk_cons newS_mono (lk_cons val_mono (lk_cons val_mono lk_nil))) ?_;intro σ hσ;have hs26:σ 26= .string Z:=hσ 26 _ rfl;have hs30:σ 30= .string S:=hσ 30 _ rfl;refine Go.Proofs.YtibjkhepedfpiaaDoor.Rg.wpN_take 25 (by kernel_rfl) (by kernel_rfl) (by kernel_rfl) ?_;simp only[List.take_succ_cons,List.take_zero,List.drop_succ_cons,List.drop_zero]
  repeat (go_big_quiet_step (fail))
  refine wpQuiet_nil ?_;refine wpN_sp _ rfl (by kernel_rfl) (spAt_newS 12 3 #[.int .i64 62,.int .i64 (176+(13+(M:Int))/256),.int .i64 ((13+(M:Int))%256),.int .i64 (pa/256),.int .i64 (pa%256),.int .i64 193,.int .i64 0,.int .i64 0,.int .i64 (d/16),.int .i64 (TH),.int .i64 (a/256%256),.int .i64 (a%256)] (Nat.zero_le _) (by intro w0;go_simp)) ?_;simp only[Act.put,List.setIfInBounds_toArray,List.set_cons_zero,List.set_cons_succ];refine wpN_sp _ rfl (by kernel_rfl) (spAt_val (f:=44) (args:= #[σ 25]) (by intro w0;go_simp) (fun p hd=>?_)) ?_
  ·obtain⟨g,hg,_,hblk⟩:=dep_at hd 25 rfl (by kernel_rfl)
   rw[hg];exact HTX.out _ _ (ints_blk hblk (by rw[HFN.out];rfl))
  simp only[Act.put,List.setIfInBounds_toArray,List.set_cons_zero,List.set_cons_succ];rw[hs26];refine Go.Proofs.YtibjkhepedfpiaaDoor.Rg.wpN_take 3 (by kernel_rfl) (by kernel_rfl) (by kernel_rfl) ?_;simp only[List.take_succ_cons,List.take_zero,List.drop_succ_cons,List.drop_zero]
  repeat (go_big_quiet_step (fail))
  refine wpQuiet_nil ?_;refine wpN_sp _ rfl (by kernel_rfl) (spAt_val (f:=32) (args:= #[.string Y]) (by intro w0;go_simp) (fun p hd=>?_)) ?_
  ·exact kl _
  simp only[Act.put,List.setIfInBounds_toArray,List.set_cons_zero,List.set_cons_succ];rw[hs30];refine Go.Proofs.YtibjkhepedfpiaaDoor.Rg.wpN_take 1 (by kernel_rfl) (by kernel_rfl) (by kernel_rfl) ?_;simp only[List.take_succ_cons,List.take_zero,List.drop_succ_cons,List.drop_zero]
  repeat (go_big_quiet_step (fail))
  refine wpQuiet_nil ?_;refine wpN_nil ?_;rintro w9 ⟨pq,rfl⟩ _;have hE:=(HB.out.px pq).be
  go_wp2_with fail
  go_ret;exact⟨rfl,hE⟩
 case false.true=>
  obtain rfl:TH=T0+4:=by rw[←hTH];simp[nb]
  clear hTH;have c0:=fun pX=>Blk.cell (blk_ext (HB.out.nth 0 rfl) pX) 0 (v:= .int .i64 pa) rfl;have c1:=fun pX=>Blk.cell (blk_ext (HB.out.nth 0 rfl) pX) 1 (v:= .int .i64 d) rfl;have c2:=fun pX=>Blk.cell (blk_ext (HB.out.nth 0 rfl) pX) 2 (v:= .bool false) rfl;have c3:=fun pX=>Blk.cell (blk_ext (HB.out.nth 0 rfl) pX) 3 (v:= .bool true) rfl;have c4:=fun pX=>Blk.cell (blk_ext (HB.out.nth 0 rfl) pX) 4 (v:= .int .i64 a) rfl;have c5:=fun pX=>Blk.cell (blk_ext (HB.out.nth 0 rfl) pX) 5 (v:= .string te) rfl
  go_enter Tryd.func31,Tryd.ntmps31
  go_wp2_with fail
  refine Go.Proofs.YtibjkhepedfpiaaDoor.Rg.region_new_all [(25,newS 12 3 #[.int .i64 62,.int .i64 (176+(13+(M:Int))/256),.int .i64 ((13+(M:Int))%256),.int .i64 (pa/256),.int .i64 (pa%256),.int .i64 193,.int .i64 0,.int .i64 0,.int .i64 (d/16),.int .i64 (T0+4),.int .i64 (a/256%256),.int .i64 (a%256)] 0),(26,val (.string Z)),(30,val (.string S))] (by kernel_rfl) (by kernel_rfl) (by kernel_rfl) (lk_cons newS_inh (lk_cons val_inh (lk_cons val_inh lk_nil))) (lk_cons newS_mono (lk_cons val_mono (lk_cons val_mono lk_nil))) ?_;intro σ hσ;have hs26:σ 26= .string Z:=hσ 26 _ rfl;have hs30:σ 30= .string S:=hσ 30 _ rfl;refine Go.Proofs.YtibjkhepedfpiaaDoor.Rg.wpN_take 25 (by kernel_rfl) (by kernel_rfl) (by kernel_rfl) ?_;simp only[List.take_succ_cons,List.take_zero,List.drop_succ_cons,List.drop_zero]
  repeat (go_big_quiet_step (fail))
  refine wpQuiet_nil ?_;refine wpN_sp _ rfl (by kernel_rfl) (spAt_newS 12 3 #[.int .i64 62,.int .i64 (176+(13+(M:Int))/256),.int .i64 ((13+(M:Int))%256),.int .i64 (pa/256),.int .i64 (pa%256),.int .i64 193,.int .i64 0,.int .i64 0,.int .i64 (d/16),.int .i64 (T0+4),.int .i64 (a/256%256),.int .i64 (a%256)] (Nat.zero_le _) (by intro w0;go_simp)) ?_;simp only[Act.put,List.setIfInBounds_toArray,List.set_cons_zero,List.set_cons_succ];refine wpN_sp _ rfl (by kernel_rfl) (spAt_val (f:=44) (args:= #[σ 25]) (by intro w0;go_simp) (fun p hd=>?_)) ?_
  ·obtain⟨g,hg,_,hblk⟩:=dep_at hd 25 rfl (by kernel_rfl)
   rw[hg];exact HTX.out _ _ (ints_blk hblk (by rw[HFN.out];rfl))
  simp only[Act.put,List.setIfInBounds_toArray,List.set_cons_zero,List.set_cons_succ];rw[hs26];refine Go.Proofs.YtibjkhepedfpiaaDoor.Rg.wpN_take 3 (by kernel_rfl) (by kernel_rfl) (by kernel_rfl) ?_;simp only[List.take_succ_cons,List.take_zero,List.drop_succ_cons,List.drop_zero]
  repeat (go_big_quiet_step (fail))
  refine wpQuiet_nil ?_;refine wpN_sp _ rfl (by kernel_rfl) (spAt_val (f:=32) (args:= #[.string Y]) (by intro w0;go_simp) (fun p hd=>?_)) ?_
  ·exact kl _
  simp only[Act.put,List.setIfInBounds_toArray,List.set_cons_zero,List.set_cons_succ];rw[hs30];refine Go.Proofs.YtibjkhepedfpiaaDoor.Rg.wpN_take 1 (by kernel_rfl) (by kernel_rfl) (by kernel_rfl) ?_;simp only[List.take_succ_cons,List.take_zero,List.drop_succ_cons,List.drop_zero]
  repeat (go_big_quiet_step (fail))
  refine wpQuiet_nil ?_;refine wpN_nil ?_;rintro w9 ⟨pq,rfl⟩ _;have hE:=(HB.out.px pq).be
  go_wp2_with fail
  go_ret;exact⟨rfl,hE⟩
 case true.false=>
  obtain rfl:TH=T0+8:=by rw[←hTH];simp[nb]
  clear hTH;have c0:=fun pX=>Blk.cell (blk_ext (HB.out.nth 0 rfl) pX) 0 (v:= .int .i64 pa) rfl;have c1:=fun pX=>Blk.cell (blk_ext (HB.out.nth 0 rfl) pX) 1 (v:= .int .i64 d) rfl;have c2:=fun pX=>Blk.cell (blk_ext (HB.out.nth 0 rfl) pX) 2 (v:= .bool true) rfl;have c3:=fun pX=>Blk.cell (blk_ext (HB.out.nth 0 rfl) pX) 3 (v:= .bool false) rfl;have c4:=fun pX=>Blk.cell (blk_ext (HB.out.nth 0 rfl) pX) 4 (v:= .int .i64 a) rfl;have c5:=fun pX=>Blk.cell (blk_ext (HB.out.nth 0 rfl) pX) 5 (v:= .string te) rfl
  go_enter Tryd.func31,Tryd.ntmps31
  go_wp2_with fail
  refine Go.Proofs.YtibjkhepedfpiaaDoor.Rg.region_new_all [(25,newS 12 3 #[.int .i64 62,.int .i64 (176+(13+(M:Int))/256),.int .i64 ((13+(M:Int))%256),.int .i64 (pa/256),.int .i64 (pa%256),.int .i64 193,.int .i64 0,.int .i64 0,.int .i64 (d/16),.int .i64 (T0+8),.int .i64 (a/256%256),.int .i64 (a%256)] 0),(26,val (.string Z)),(30,val (.string S))] (by kernel_rfl) (by kernel_rfl) (by kernel_rfl) (lk_cons newS_inh (lk_cons val_inh (lk_cons val_inh lk_nil))) (lk_cons newS_mono (lk_cons val_mono (lk_cons val_mono lk_nil))) ?_;intro σ hσ;have hs26:σ 26= .string Z:=hσ 26 _ rfl;have hs30:σ 30= .string S:=hσ 30 _ rfl;refine Go.Proofs.YtibjkhepedfpiaaDoor.Rg.wpN_take 25 (by kernel_rfl) (by kernel_rfl) (by kernel_rfl) ?_;simp only[List.take_succ_cons,List.take_zero,List.drop_succ_cons,List.drop_zero]
  repeat (go_big_quiet_step (fail))
  refine wpQuiet_nil ?_;refine wpN_sp _ rfl (by kernel_rfl) (spAt_newS 12 3 #[.int .i64 62,.int .i64 (176+(13+(M:Int))/256),.int .i64 ((13+(M:Int))%256),.int .i64 (pa/256),.int .i64 (pa%256),.int .i64 193,.int .i64 0,.int .i64 0,.int .i64 (d/16),.int .i64 (T0+8),.int .i64 (a/256%256),.int .i64 (a%256)] (Nat.zero_le _) (by intro w0;go_simp)) ?_;simp only[Act.put,List.setIfInBounds_toArray,List.set_cons_zero,List.set_cons_succ];refine wpN_sp _ rfl (by kernel_rfl) (spAt_val (f:=44) (args:= #[σ 25]) (by intro w0;go_simp) (fun p hd=>?_)) ?_
  ·obtain⟨g,hg,_,hblk⟩:=dep_at hd 25 rfl (by kernel_rfl)
   rw[hg];exact HTX.out _ _ (ints_blk hblk (by rw[HFN.out];rfl))
  simp only[Act.put,List.setIfInBounds_toArray,List.set_cons_zero,List.set_cons_succ];rw[hs26];refine Go.Proofs.YtibjkhepedfpiaaDoor.Rg.wpN_take 3 (by kernel_rfl) (by kernel_rfl) (by kernel_rfl) ?_;simp only[List.take_succ_cons,List.take_zero,List.drop_succ_cons,List.drop_zero]
  repeat (go_big_quiet_step (fail))
  refine wpQuiet_nil ?_;refine wpN_sp _ rfl (by kernel_rfl) (spAt_val (f:=32) (args:= #[.string Y]) (by intro w0;go_simp) (fun p hd=>?_)) ?_
  ·exact kl _
  simp only[Act.put,List.setIfInBounds_toArray,List.set_cons_zero,List.set_cons_succ];rw[hs30];refine Go.Proofs.YtibjkhepedfpiaaDoor.Rg.wpN_take 1 (by kernel_rfl) (by kernel_rfl) (by kernel_rfl) ?_;simp only[List.take_succ_cons,List.take_zero,List.drop_succ_cons,List.drop_zero]
  repeat (go_big_quiet_step (fail))
  refine wpQuiet_nil ?_;refine wpN_nil ?_;rintro w9 ⟨pq,rfl⟩ _;have hE:=(HB.out.px pq).be
  go_wp2_with fail
  go_ret;exact⟨rfl,hE⟩
 case true.true=>
  obtain rfl:TH=T0+8+4:=by rw[←hTH];simp[nb]
  clear hTH;have c0:=fun pX=>Blk.cell (blk_ext (HB.out.nth 0 rfl) pX) 0 (v:= .int .i64 pa) rfl;have c1:=fun pX=>Blk.cell (blk_ext (HB.out.nth 0 rfl) pX) 1 (v:= .int .i64 d) rfl;have c2:=fun pX=>Blk.cell (blk_ext (HB.out.nth 0 rfl) pX) 2 (v:= .bool true) rfl;have c3:=fun pX=>Blk.cell (blk_ext (HB.out.nth 0 rfl) pX) 3 (v:= .bool true) rfl;have c4:=fun pX=>Blk.cell (blk_ext (HB.out.nth 0 rfl) pX) 4 (v:= .int .i64 a) rfl;have c5:=fun pX=>Blk.cell (blk_ext (HB.out.nth 0 rfl) pX) 5 (v:= .string te) rfl
  go_enter Tryd.func31,Tryd.ntmps31
  go_wp2_with fail
  refine Go.Proofs.YtibjkhepedfpiaaDoor.Rg.region_new_all [(25,newS 12 3 #[.int .i64 62,.int .i64 (176+(13+(M:Int))/256),.int .i64 ((13+(M:Int))%256),.int .i64 (pa/256),.int .i64 (pa%256),.int .i64 193,.int .i64 0,.int .i64 0,.int .i64 (d/16),.int .i64 (T0+8+4),.int .i64 (a/256%256),.int .i64 (a%256)] 0),(26,val (.string Z)),(30,val (.string S))] (by kernel_rfl) (by kernel_rfl) (by kernel_rfl) (lk_cons newS_inh (lk_cons val_inh (lk_cons val_inh lk_nil))) (lk_cons newS_mono (lk_cons val_mono (lk_cons val_mono lk_nil))) ?_;intro σ hσ;have hs26:σ 26= .string Z:=hσ 26 _ rfl;have hs30:σ 30= .string S:=hσ 30 _ rfl;refine Go.Proofs.YtibjkhepedfpiaaDoor.Rg.wpN_take 25 (by kernel_rfl) (by kernel_rfl) (by kernel_rfl) ?_;simp only[List.take_succ_cons,List.take_zero,List.drop_succ_cons,List.drop_zero]
  repeat (go_big_quiet_step (fail))
  refine wpQuiet_nil ?_;refine wpN_sp _ rfl (by kernel_rfl) (spAt_newS 12 3 #[.int .i64 62,.int .i64 (176+(13+(M:Int))/256),.int .i64 ((13+(M:Int))%256),.int .i64 (pa/256),.int .i64 (pa%256),.int .i64 193,.int .i64 0,.int .i64 0,.int .i64 (d/16),.int .i64 (T0+8+4),.int .i64 (a/256%256),.int .i64 (a%256)] (Nat.zero_le _) (by intro w0;go_simp)) ?_;simp only[Act.put,List.setIfInBounds_toArray,List.set_cons_zero,List.set_cons_succ];refine wpN_sp _ rfl (by kernel_rfl) (spAt_val (f:=44) (args:= #[σ 25]) (by intro w0;go_simp) (fun p hd=>?_)) ?_
  ·obtain⟨g,hg,_,hblk⟩:=dep_at hd 25 rfl (by kernel_rfl)
   rw[hg];exact HTX.out _ _ (ints_blk hblk (by rw[HFN.out];rfl))
  simp only[Act.put,List.setIfInBounds_toArray,List.set_cons_zero,List.set_cons_succ];rw[hs26];refine Go.Proofs.YtibjkhepedfpiaaDoor.Rg.wpN_take 3 (by kernel_rfl) (by kernel_rfl) (by kernel_rfl) ?_;simp only[List.take_succ_cons,List.take_zero,List.drop_succ_cons,List.drop_zero]
  repeat (go_big_quiet_step (fail))
  refine wpQuiet_nil ?_;refine wpN_sp _ rfl (by kernel_rfl) (spAt_val (f:=32) (args:= #[.string Y]) (by intro w0;go_simp) (fun p hd=>?_)) ?_
  ·exact kl _
  simp only[Act.put,List.setIfInBounds_toArray,List.set_cons_zero,List.set_cons_succ];rw[hs30];refine Go.Proofs.YtibjkhepedfpiaaDoor.Rg.wpN_take 1 (by kernel_rfl) (by kernel_rfl) (by kernel_rfl) ?_;simp only[List.take_succ_cons,List.take_zero,List.drop_succ_cons,List.drop_zero]
  repeat (go_big_quiet_step (fail))
  refine wpQuiet_nil ?_;refine wpN_nil ?_;rintro w9 ⟨pq,rfl⟩ _;have hE:=(HB.out.px pq).be
  go_wp2_with fail
  go_ret;exact⟨rfl,hE⟩
end Go.Proofs.YtibjkhepedfpiaaDoor.MpS
