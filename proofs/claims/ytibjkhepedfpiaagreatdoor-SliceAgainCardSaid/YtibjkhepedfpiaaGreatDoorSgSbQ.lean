import Derived.Test.YtibjkhepedfpiaaGreatDoorSgSbB
namespace Go.Proofs.YtibjkhepedfpiaaGreatDoor.SbQ
open Go St TmA PaA PaP PaK SlM SlP SlR SlS SlW PkL BuA BuB BuF StP LyA LyM SbP SbB
def InD (o:Option Int) (fr:Int):Prop:= ∀t,o=some t→0≤fr∧fr≤t∧t≤4000
def ddO (u:Int) (o:Option Int) (fr:Int):Int:=match o with
 |none=>0
 |some t=>dlD fr t u
theorem dd_ok {u:Int} (hu:1≤u) {o:Option Int} {fr:Int} (h:InD o fr):0≤ddO u o fr∧ddO u o fr≤4095:=by
 cases o with
 |none=>exact⟨Int.le_refl _,by show(0:Int)≤4095;decide⟩
 |some t=>obtain⟨h1,h2,h3⟩:=h t rfl;exact delta_ok hu h1 h2 h3
theorem sd_is (u:Int) (o:Option Int) (s:ByteArray) (fr:Int):sdS u o s fr=if tmE s≠0 then s else stS s (ddO u o fr):=by
 unfold sdS ddO
 cases o<;>rfl
theorem sd_size {u:Int} (hu:1≤u) {o:Option Int} {fr:Int} (h:InD o fr) (s:ByteArray):(sdS u o s fr).size=s.size:=by
 rw[sd_is];by_cases h0:tmE s=0
 ·rw[if_neg (by simpa using h0)];exact(stamp_ok h0 (dd_ok hu h)).sz
 ·rw[if_pos h0]
theorem sd_pa {u:Int} (hu:1≤u) {o:Option Int} {fr:Int} (h:InD o fr) {s:ByteArray} (hp:paE s=0):paE (sdS u o s fr)=0:=by
 rw[sd_is];by_cases h0:tmE s=0
 ·rw[if_neg (by simpa using h0)];exact(stamp_more h0 (dd_ok hu h)).1
 ·rw[if_pos h0];exact hp
theorem sd_twice {u:Int} (hu:1≤u) {o:Option Int} {fr:Int} (h:InD o fr) (u':Int) (s:ByteArray):sdS u' o (sdS u o s fr) fr=sdS u' o s fr:=by
 rw[sd_is u o];by_cases h0:tmE s=0
 ·have hk:=stamp_ok h0 (dd_ok hu h)
  rw[if_neg (by simpa using h0),sd_is u',sd_is u',if_neg (by simpa using hk.te),if_neg (by simpa using h0)];exact(stamp_more h0 (dd_ok hu h)).2 _
 ·rw[if_pos h0]
theorem zip_size {u:Int} (hu:1≤u) {o:Option Int}: ∀(S:List ByteArray) (E:List Int),E.length=S.length→(∀e∈E,InD o e)→(List.zipWith (sdS u o) S E).map ByteArray.size=S.map ByteArray.size
 |[],_,_,_=>rfl
 |s::S,[],h,_=>by simp at h
 |s::S,e::E,h,hE=>by
  rw[List.zipWith_cons_cons,List.map_cons,List.map_cons,sd_size hu (hE e (by simp)),zip_size hu S E (by simpa using h) (fun x hx=>hE x (by simp[hx]))]
theorem zip_pa {u:Int} (hu:1≤u) {o:Option Int}: ∀(S:List ByteArray) (E:List Int),(∀e∈E,InD o e)→(∀s∈S,paE s=0)→ ∀s∈List.zipWith (sdS u o) S E,paE s=0
 |[],_,_,_,s,h=>by simp at h
 |_::_,[],_,_,s,h=>by simp at h
 |a::S,e::E,hE,hS,s,h=>by
  rw[List.zipWith_cons_cons]at h;rcases List.mem_cons.1 h with rfl|h
  ·exact sd_pa hu (hE e (by simp)) (hS a (by simp))
  ·exact zip_pa hu S E (fun x hx=>hE x (by simp[hx])) (fun x hx=>hS x (by simp[hx])) s h
theorem zip_twice {u:Int} (hu:1≤u) {o:Option Int} (u':Int): ∀(S:List ByteArray) (E:List Int),(∀e∈E,InD o e)→List.zipWith (sdS u' o) (List.zipWith (sdS u o) S E) E=List.zipWith (sdS u' o) S E
 |[],_,_=>by simp
 |_::_,[],_=>by simp
 |a::S,e::E,hE=>by
  rw[List.zipWith_cons_cons,List.zipWith_cons_cons,List.zipWith_cons_cons,sd_twice hu (hE e (by simp)),zip_twice hu u' S E (fun x hx=>hE x (by simp[hx]))]
theorem first_zero: ∀{L:List ByteArray},(∀s∈L,paE s=0)→firstE L=0:=by
 intro L
 induction L with
 |nil=>intro _;rfl
 |cons a t ih=>
  intro h;have h1:=h a (by simp);have h2:=ih (fun s hs=>h s (by simp[hs]));show(if paE a=0 then firstE t else paE a)=0;rw[if_pos h1];exact h2
structure Sl (u:Int) (e:Int) (L:List Br):Prop where
 c:checkE e L=0
 z:0≤e
 l:endE e L≤4000
theorem Sl.tail {u e:Int} {a:Br} {t:List Br} (h:Sl u e (a::t)):Sl u (a.at_+manyN a.S) t:=by
 obtain⟨h1,h2,h3,h4⟩:=checkE_cons h.c;have em:(manyN a.S:Int)=nS a.S:=by unfold manyN nS;rw[if_pos h2]
 exact⟨by rw[em];exact h4,by have:=h1.2.2.1;omega,h.l⟩
theorem Sl.ind {u e:Int} {a:Br} {t:List Br} (h:Sl u e (a::t)): ∀x∈endsOf a,InD (afterO a.pid t) x:=fun x hx tt ht=>by
 have hc:=check_one _ e h.c a (by simp) h.z;have h1:=ends_in hc x hx;obtain⟨y,hy,rfl⟩:=after_mem ht;have h2:=after_ge (q:=0) h.c rfl y hy;have h3:=(end_ge t _ h.tail.c).2 y hy;have h4:=h.l;rw[endE]at h4;exact⟨h1.1,by omega,by omega⟩
theorem stb_same {u e:Int} (hu:1≤u) {a:Br} {t:List Br} (h:Sl u e (a::t)):(stB u a t).pid=a.pid∧(stB u a t).at_=a.at_∧(stB u a t).S.map ByteArray.size=a.S.map ByteArray.size∧manyE (stB u a t).S=0∧manyN (stB u a t).S=manyN a.S:=by
 obtain⟨h1,h2,h3,h4⟩:=checkE_cons h.c;have hz:(stB u a t).S.map ByteArray.size=a.S.map ByteArray.size:=zip_size hu _ _ (ends_len a) h.ind;have hl:(stB u a t).S.length=a.S.length:=by have:=congrArg List.length hz;simpa using this
 have hm:manyE (stB u a t).S=0:=by
  have h5:=many_first h2;unfold manyE;rw[hl,if_neg h5.1];exact first_zero (zip_pa hu _ _ h.ind (first_ok h5.2))
 refine⟨rfl,rfl,hz,hm,?_⟩;unfold manyN;rw[if_pos hm,if_pos h2,hz]
theorem stp_check {u:Int} (hu:1≤u): ∀(L:List Br) (e:Int),Sl u e L→checkE e (stpL u L)=0∧endE e (stpL u L)=endE e L
 |[],e,_=>⟨rfl,rfl⟩
 |a::t,e,h=>by
  obtain⟨h1,h2,h3,h4⟩:=checkE_cons h.c;obtain⟨s1,s2,s3,s4,s5⟩:=stb_same hu h;obtain⟨i1,i2⟩:=stp_check hu t _ h.tail;rw[stpL,checkE,endE,endE,s1,s2,s5,if_neg (by simpa using h1),if_neg (by simpa using s4),if_neg (by omega)];exact⟨i1,i2⟩
theorem after_stp (u:Int) (pid:Int): ∀t:List Br,afterO pid (stpL u t)=afterO pid t
 |[]=>rfl
 |a::t=>by
  rw[stpL];unfold afterO;rw[List.find?_cons,List.find?_cons];show Option.map Br.at_ (match decide (a.pid=pid)with|true=>some _|false=>_)=_;by_cases h:a.pid=pid
  ·rw[decide_eq_true h];rfl
  ·rw[decide_eq_false h];exact after_stp u pid t
theorem stp_twice {u:Int} (hu:1≤u) (u':Int): ∀(L:List Br) (e:Int),Sl u e L→stpL u' (stpL u L)=stpL u' L
 |[],_,_=>rfl
 |a::t,e,h=>by
  obtain⟨s1,s2,s3,_,_⟩:=stb_same hu h;rw[stpL,stpL,stpL,stp_twice hu u' t _ h.tail]
  congr 1
  have he:endsOf (stB u a t)=endsOf a:=by unfold endsOf;rw[s3];rfl
  show Br.mk a.pid a.at_ (List.zipWith (sdS u' (afterO a.pid (stpL u t))) (stB u a t).S (endsOf (stB u a t)))=_;rw[he,after_stp];show Br.mk a.pid a.at_ (List.zipWith _ (List.zipWith _ _ _) _)=_;rw[zip_twice hu u' _ _ h.ind];rfl
theorem dom_sl {u:Int} {L:List Br} (h:Dom u L):Sl u 0 L:=⟨h.c,Int.le_refl _,h.e⟩
theorem small_stp {u:Int} (hu:1≤u): ∀(L:List Br) (e:Int),Sl u e L→(∀b∈L,Small b∧b.S.length≤8)→ ∀b∈stpL u L,Small b∧b.S.length≤8
 |[],_,_,_,b,hb=>by cases hb
 |a::t,e,h,hs,b,hb=>by
  rw[stpL]at hb;rcases List.mem_cons.1 hb with rfl|hb
  ·obtain⟨_,_,s3,_,_⟩:=stb_same hu h
   obtain⟨⟨a1,a2⟩,a3⟩:=hs a (by simp);have hl:(stB u a t).S.length=a.S.length:=by have:=congrArg List.length s3;simpa using this
   refine⟨⟨by omega,fun s hs'=>?_⟩,by omega⟩;have:s.size∈a.S.map ByteArray.size:=by rw[←s3];exact List.mem_map_of_mem hs'
   obtain⟨y,hy,hy2⟩:=List.mem_map.1 this;rw[←hy2];exact a2 y hy
  ·exact small_stp hu t _ h.tail (fun x hx=>hs x (by simp[hx])) b hb
end Go.Proofs.YtibjkhepedfpiaaGreatDoor.SbQ
