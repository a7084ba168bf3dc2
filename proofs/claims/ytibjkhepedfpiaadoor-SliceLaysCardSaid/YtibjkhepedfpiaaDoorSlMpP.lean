import Derived.Test.YtibjkhepedfpiaaDoorSlMpC
namespace Go.Proofs.YtibjkhepedfpiaaDoor.MpP
open Go Go.RowKit Q Mem Rg Ap St BiP CrP CrC SeA SeC SeE SeEq SeI SeP TmA TmB MpA MpC
theorem mp_iff {a b:Mp}:a=b↔a.mac=b.mac∧a.times.delta=b.times.delta∧a.times.table=b.times.table∧a.times.frame=b.times.frame∧a.times.at_=b.times.at_∧a.text=b.text:=
 ⟨fun h=>by subst h;simp,fun⟨h1,h2,h3,h4,h5,h6⟩=>by
  obtain⟨_,⟨_,_,_,_⟩,_⟩:=a;obtain⟨_,⟨_,_,_,_⟩,_⟩:=b
  simp_all⟩
instance:DecidableEq Mp:=fun _ _=>decidable_of_iff _ mp_iff.symm
theorem encT_ok {t:Ti} (h:t.ok):encT t=str (tmL t):=by unfold encT;rw[if_pos (tchk_ok h)]
theorem sec_body {p:Mp} (h:p.times.ok):bl p.sec.body=tmL p.times++bl p.text:=by
 show bl (encT p.times++p.text)=_;rw[encT_ok h,bl_app,bl_str]
theorem sec_size {p:Mp} (h:p.times.ok):p.sec.body.size=4+p.text.size:=by rw[←bl_len,sec_body h,List.length_append,tm_len,bl_len]
theorem enc_size {p:Mp} (h:p.chk=0):p.enc.size=p.text.size+16:=by
 unfold Mp.enc;rw[if_pos h,bytes_size,sec_size (mchk_zero h).2.1];omega
set_option maxRecDepth 100000
end Go.Proofs.YtibjkhepedfpiaaDoor.MpP
