import Derived.Test.YtdbpkhnmhddmmaaGreatDoorChecked
import Derived.WalkSpells
import Derived.WalkLawsBesides
import Derived.Deep.Light
import Derived.Test.YtdbpkhnmhddmmaaGreatDoorRnPkA
import Derived.StillTailTactics
import Derived.Deep.RegionHeld3
import Derived.Lib.Hide
import Derived.Handy
namespace Go.Proofs.YtdbpkhnmhddmmaaGreatDoor.Aw
structure M where
 unit:Int
 guard:Int
 burst:Int
 pat:Int
 now:Int
 state:Int
 begun:Int
 wake:Int
 last:Int
 spent:Int
 missed:Int
def cfg (unit guard burst pat:Int):Bool:=
 decide (1≤unit∧unit≤1048576∧0≤guard∧guard≤1048576∧1≤burst∧burst≤1048576∧1≤pat∧pat≤1048576∧burst≤pat)
def start (unit guard burst pat:Int):M:=⟨unit,guard,burst,pat,0,1,0,0,0,0,0⟩
def M.reset (m:M):M:=⟨m.unit,m.guard,m.burst,m.pat,m.now,1,m.begun,0,0,m.spent,m.missed⟩
def M.setState (m:M) (s:Int):M:=⟨m.unit,m.guard,m.burst,m.pat,m.now,s,m.begun,m.wake,m.last,m.spent,m.missed⟩
def M.rest (m:M):M:=if m.wake=0∧m.last=0 then m.reset else m.setState 2
def M.expire (m:M):M:=if m.last+m.pat<m.now then⟨m.unit,m.guard,m.burst,m.pat,m.now,1,m.begun,0,0,m.spent,m.missed+1⟩else m
def M.settle2 (m:M):M:=
 if m.state=2 then(if m.now<m.wake then m else(m.setState 3).expire)else if m.state=3 then m.expire else m
def M.settle (m:M):M:=if m.state=4∧m.burst≤m.now-m.begun then m.rest.settle2 else m.settle2
def M.tick (m:M):M:=⟨m.unit,m.guard,m.burst,m.pat,m.now+1,m.state,m.begun,m.wake,m.last,(if m.state=2 then m.spent else m.spent+1),m.missed⟩
def M.next (m:M):M:=if 1099511627775≤m.now then m else m.tick.settle
def timesOk (delta at_:Int):Bool:=decide (0≤delta∧delta<4096∧0≤at_∧at_<262144)
def timesE (delta at_:Int):Int:=if timesOk delta at_ then 0 else 15
def in12 (x:Int):Bool:=decide (0≤x∧x<4096)
def in18 (x:Int):Bool:=decide (0≤x∧x<262144)
def slotB (n u:Int):Bool:=decide (0≤n∧n<1099511627776∧1≤u∧u≤1048576)
def firstOf (n d u:Int):Int:=max n (n+d*u-u+min d 1)
theorem timesE_eq (d a:Int):timesE d a=if in12 d=true∧in18 a=true then 0 else 15:=by
 unfold timesE timesOk in12 in18;simp[and_assoc]
def M.enter (m:M):M:=if m.state=4 then m else⟨m.unit,m.guard,m.burst,m.pat,m.now,4,m.now,m.wake,m.last,m.spent,m.missed⟩
def wakeOf (now delta unit guard:Int):Int:=max now (max now (now+delta*unit-unit+1)-guard)
def M.know (m:M) (delta:Int):M:=
 if 0<delta then⟨m.unit,m.guard,m.burst,m.pat,m.now,m.state,m.begun,wakeOf m.now delta m.unit m.guard,m.now+delta*m.unit,m.spent,m.missed⟩
 else⟨m.unit,m.guard,m.burst,m.pat,m.now,m.state,m.begun,0,0,m.spent,m.missed⟩
def M.hear (m:M) (delta:Int) (frame:Bool):M:=if frame then(m.enter.know delta).rest.settle else m.enter.know delta
def M.heardE (m:M) (delta at_:Int):Int:=if m.state=2 then 22 else timesE delta at_
def M.heard (m:M) (delta:Int) (frame:Bool) (at_:Int):M:=if m.heardE delta at_=0 then m.hear delta frame else m
structure M.Inv (m:M):Prop where
 u1:1≤m.unit
 u2:m.unit≤1048576
 g1:0≤m.guard
 g2:m.guard≤1048576
 b1:1≤m.burst
 b2:m.burst≤1048576
 p1:1≤m.pat
 p2:m.pat≤1048576
 n1:0≤m.now
 n2:m.now≤1099511627775
 s1:1≤m.state
 s2:m.state≤4
 e1:0≤m.begun
 e2:m.begun≤m.now
 w1:0≤m.wake
 w2:m.wake≤m.last
 l2:m.last≤2199023255552
 t1:0≤m.spent
 t2:m.spent≤m.now
 m1:0≤m.missed
 m2:m.missed≤m.now
end Go.Proofs.YtdbpkhnmhddmmaaGreatDoor.Aw
namespace Go.Proofs.YtdbpkhnmhddmmaaGreatDoor.AwA
open Go.RowKit
theorem ret_bool {a b:Bool} (h:a=b):Ending.returned (.bool a)=Ending.returned (.bool b):=by rw[h]
theorem ret_iii {a b c a' b' c':Int} (h:a=a') (h1:b=b') (h2:c=c'):Ending.returned (.tuple #[.int .i64 a,.int .i64 b,.int .i64 c])=Ending.returned (.tuple #[.int .i64 a',.int .i64 b',.int .i64 c']):=by rw[h,h1,h2]
theorem ret_ii {a b a' b':Int} (h:a=a') (h1:b=b'):Ending.returned (.tuple #[.int .i64 a,.int .i64 b])=Ending.returned (.tuple #[.int .i64 a',.int .i64 b']):=by rw[h,h1]
theorem ret_i64 {a b:Int} (h:a=b):Ending.returned (.int .i64 a)=Ending.returned (.int .i64 b):=by rw[h]
theorem within12 (x:Int) (w:World):
 Calls Tryz.prog 126 #[.int .i64 x,.int .i64 12] w fun e w'=>e= .returned (.bool (Aw.in12 x))∧w=w':=by
 go_enter Tryz.func126,Tryz.ntmps126
 go_wp2
 all_goals go_ret
 all_goals (refine⟨ret_bool ?_,rfl⟩;go_light;unfold Aw.in12;rw[Bool.eq_iff_iff];simp<;>omega)
theorem within18 (x:Int) (w:World):
 Calls Tryz.prog 126 #[.int .i64 x,.int .i64 18] w fun e w'=>e= .returned (.bool (Aw.in18 x))∧w=w':=by
 go_enter Tryz.func126,Tryz.ntmps126
 go_wp2
 all_goals go_ret
 all_goals (refine⟨ret_bool ?_,rfl⟩;go_light;unfold Aw.in18;rw[Bool.eq_iff_iff];simp<;>omega)
theorem slot_any (n u:Int) (w:World):
 Calls Tryz.prog 127 #[.int .i64 n,.int .i64 u] w fun e w'=>e= .returned (.bool (Aw.slotB n u))∧w=w':=by
 go_enter Tryz.func127,Tryz.ntmps127
 go_wp2
 all_goals go_ret
 all_goals (refine⟨ret_bool ?_,rfl⟩;go_light;unfold Aw.slotB;rw[Bool.eq_iff_iff];simp<;>omega)
theorem times_check (d a:Int) (tb fr:Bool) (w:World):
 Calls Tryz.prog 85 #[.agg #[.int .i64 d,.bool tb,.bool fr,.int .i64 a]] w fun e w'=>e= .returned (.int .i64 (Aw.timesE d a))∧
  w.alloc (.cells #[.int .i64 d,.bool tb,.bool fr,.int .i64 a] 106)=w':=by
 go_enter Tryz.func85,Tryz.ntmps85
 go_wp2_with (first|(go_at_call 126;(with_reducible refine(within12 _ _).mono ?_);rintro e w' ⟨rfl,rfl⟩)|(go_at_call 126;(with_reducible refine(within18 _ _).mono ?_);rintro e w' ⟨rfl,rfl⟩))
 all_goals go_ret
 all_goals (refine⟨ret_i64 ?_,rfl⟩;go_light;rw[Aw.timesE_eq];simp_all)
theorem window_any (n d u:Int) (w:World) (hn:0≤n) (hn':n<1099511627776) (hd:0≤d) (hd':d<4096) (hu:1≤u) (hu':u≤1048576):
 Calls Tryz.prog 87 #[.int .i64 n,.int .i64 d,.int .i64 u] w fun e w'=>e= .returned (.tuple #[.int .i64 (Aw.firstOf n d u),.int .i64 (n+d*u),.int .i64 0])∧w=w':=by
 have e0:Aw.slotB n u=true:=by simp[Aw.slotB];omega
 have e1:Aw.in12 d=true:=by simp[Aw.in12];omega
 have k0:=slot_any n u;have k1:=within12 d;rw[e0]at k0;rw[e1]at k1;have hm0:0≤d*u:=Int.mul_nonneg hd (by omega);have hm1:d*u≤4096*1048576:=Int.mul_le_mul (by omega) hu' (by omega) (by omega);clear e0 e1
 go_enter Tryz.func87,Tryz.ntmps87
 go_wp2_with (first|(go_at_call 127;(with_reducible refine(k0 _).mono ?_);rintro e w' ⟨rfl,rfl⟩)|(go_at_call 126;(with_reducible refine(k1 _).mono ?_);rintro e w' ⟨rfl,rfl⟩))
 all_goals go_ret3
 all_goals (refine⟨ret_iii ?_ rfl rfl,rfl⟩;go_light;unfold Aw.firstOf;omega)
theorem wake_any (n d u g:Int) (w:World) (hn:0≤n) (hn':n<1099511627776) (hd:0≤d) (hd':d<4096) (hu:1≤u) (hu':u≤1048576) (hg:0≤g) (hg':g≤1048576):
 Calls Tryz.prog 86 #[.int .i64 n,.int .i64 d,.int .i64 u,.int .i64 g] w fun e w'=>e= .returned (.tuple #[.int .i64 (max n (Aw.firstOf n d u-g)),.int .i64 0])∧w=w':=by
 have hm0:0≤d*u:=Int.mul_nonneg hd (by omega);have hm1:d*u≤4096*1048576:=Int.mul_le_mul (by omega) hu' (by omega) (by omega);have hf0:0≤Aw.firstOf n d u:=by unfold Aw.firstOf;omega
 have hf1:Aw.firstOf n d u≤1099511627776+4096*1048576:=by unfold Aw.firstOf;omega
 have k0:=fun w=>window_any n d u w hn hn' hd hd' hu hu';clear hm0 hm1
 go_enter Tryz.func86,Tryz.ntmps86
 go_wp2_with (go_at_call 87;(with_reducible refine(k0 _).mono ?_);rintro e w' ⟨rfl,rfl⟩)
 all_goals go_ret2
 all_goals (refine⟨ret_ii ?_ rfl,rfl⟩;go_light;omega)
end Go.Proofs.YtdbpkhnmhddmmaaGreatDoor.AwA
namespace Go.Proofs.YtdbpkhnmhddmmaaGreatDoor.AwB
open Go.RowKit Mem AwA
def cells (m:Aw.M):Array Value:= #[.int .i64 m.unit,.int .i64 m.guard,.int .i64 m.burst,.int .i64 m.pat,.int .i64 m.now,.int .i64 m.state,.int .i64 m.begun,.int .i64 m.wake,.int .i64 m.last,.int .i64 m.spent,.int .i64 m.missed]
def At (w:World) (g:Nat) (m:Aw.M):Prop:=Blk w g 96 (cells m)
theorem facts_of {w:World} {g:Nat} {m:Aw.M} (hm:At w g m):w.cell? ⟨g,0,none⟩=some (.int .i64 m.unit)∧w.cell? ⟨g,1,none⟩=some (.int .i64 m.guard)∧w.cell? ⟨g,2,none⟩=some (.int .i64 m.burst)∧w.cell? ⟨g,3,none⟩=some (.int .i64 m.pat)∧w.cell? ⟨g,4,none⟩=some (.int .i64 m.now)∧w.cell? ⟨g,5,none⟩=some (.int .i64 m.state)∧w.cell? ⟨g,6,none⟩=some (.int .i64 m.begun)∧w.cell? ⟨g,7,none⟩=some (.int .i64 m.wake)∧w.cell? ⟨g,8,none⟩=some (.int .i64 m.last)∧w.cell? ⟨g,9,none⟩=some (.int .i64 m.spent)∧w.cell? ⟨g,10,none⟩=some (.int .i64 m.missed)∧w.frozen? ⟨g,5,none⟩=false∧w.frozen? ⟨g,7,none⟩=false∧w.frozen? ⟨g,8,none⟩=false:=
 ⟨Blk.cell hm 0 rfl,Blk.cell hm 1 rfl,Blk.cell hm 2 rfl,Blk.cell hm 3 rfl,Blk.cell hm 4 rfl,Blk.cell hm 5 rfl,Blk.cell hm 6 rfl,Blk.cell hm 7 rfl,Blk.cell hm 8 rfl,Blk.cell hm 9 rfl,Blk.cell hm 10 rfl,Blk.frozen hm 5,Blk.frozen hm 7,Blk.frozen hm 8⟩
theorem awake_any (m:Aw.M) (g:Nat) (w:World) (hm:At w g m):Calls Tryz.prog 20 #[.pointer (some ⟨g,0,none⟩)] w fun e w'=>e= .returned (.bool (m.state !=2))∧w=w':=by
 have c5:=Blk.cell hm 5 (v:= .int .i64 m.state) rfl
 go_enter Tryz.func20,Tryz.ntmps20
 go_wp2
 all_goals go_ret
 all_goals exact⟨rfl,rfl⟩
structure Turned (w w':World) (g:Nat) (m:Aw.M):Prop where
 at_:At w' g m
 only:w.grownBy w' (some g)
theorem Turned.trans {a b c:World} {g:Nat} {m m':Aw.M} (h:Turned a b g m) (k:Turned b c g m'):Turned a c g m':=⟨k.1,only_trans h.2 k.2⟩
theorem reset_any (m:Aw.M) (g:Nat) (w:World) (hm:At w g m):Calls Tryz.prog 17 #[.pointer (some ⟨g,0,none⟩)] w fun e w'=>e= .returned (.tuple #[])∧Turned w w' g m.reset:=by
 obtain⟨c0,c1,c2,c3,c4,c5,c6,c7,c8,c9,c10,z5,z7,z8⟩:=AwB.facts_of hm
 go_enter Tryz.func17,Tryz.ntmps17
 go_wp2
 go_end0
 refine⟨rfl,?_,?_⟩
 ·exact((hm.set_ 5 (.int .i64 1)).set_ 7 (.int .i64 0)).set_ 8 (.int .i64 0)
 ·exact only_set (only_set (only_set (only_refl _ _) _ _) _ _) _ _
theorem rest_yes (m:Aw.M) (h:m.wake=0) (h':m.last=0):m.rest=m.reset:=by simp[Aw.M.rest,h,h']
theorem rest_no1 (m:Aw.M) (h: ¬m.wake=0):m.rest=m.setState 2:=by simp[Aw.M.rest,h]
theorem rest_no2 (m:Aw.M) (h: ¬m.last=0):m.rest=m.setState 2:=by simp[Aw.M.rest,h]
theorem turned_state (m:Aw.M) (g:Nat) (w:World) (hm:At w g m) (s:Int):Turned w (w.setCell ⟨g,5,none⟩ (.int .i64 s)) g (m.setState s):=
 ⟨hm.set_ 5 (.int .i64 s),only_set (only_refl _ _) _ _⟩
theorem rest_any (m:Aw.M) (g:Nat) (w:World) (hm:At w g m):Calls Tryz.prog 88 #[.pointer (some ⟨g,0,none⟩)] w fun e w'=>e= .returned (.tuple #[])∧Turned w w' g m.rest:=by
 obtain⟨c0,c1,c2,c3,c4,c5,c6,c7,c8,c9,c10,z5,z7,z8⟩:=AwB.facts_of hm
 go_enter Tryz.func88,Tryz.ntmps88
 go_wp2_with (go_at_call 17;(with_reducible refine(reset_any m g _ hm).mono ?_);rintro e w' ⟨rfl,ht⟩)
 all_goals (first|(refine bodyPost_ret (results_none rfl _ _ _) rfl ?_)|go_end0)
 ·exact⟨rfl,by rw[rest_yes m (by assumption) (by assumption)];exact ht⟩
 ·exact⟨rfl,by rw[rest_no2 m (by assumption)];exact turned_state m g w hm 2⟩
 ·exact⟨rfl,by rw[rest_no1 m (by assumption)];exact turned_state m g w hm 2⟩
structure Small (m:Aw.M):Prop where
 n1:0≤m.now
 n2:m.now≤2199023255552
 b1:0≤m.begun
 b2:m.begun≤2199023255552
 w1:0≤m.last
 w2:m.last≤4398046511104
 p1:0≤m.pat
 p2:m.pat≤1048576
 x1:0≤m.missed
 x2:m.missed≤4398046511104
theorem Turned.refl {w:World} {g:Nat} {m:Aw.M} (hm:At w g m):Turned w w g m:=⟨hm,only_refl _ _⟩
theorem Turned.drewN {w w':World} {g:Nat} {m:Aw.M} (h:Turned w w' g m) (n:Nat):Turned w (w'.drewN n) g m:=⟨h.1,only_drewN h.2 n⟩
theorem Turned.state {w w':World} {g:Nat} {m:Aw.M} (h:Turned w w' g m) (s:Int):Turned w (w'.setCell ⟨g,5,none⟩ (.int .i64 s)) g (m.setState s):=
 h.trans (turned_state m g w' h.1 s)
theorem Turned.miss {w w':World} {g:Nat} {m:Aw.M} (h:Turned w w' g m):Turned w (w'.setCell ⟨g,10,none⟩ (.int .i64 (m.missed+1))) g ⟨m.unit,m.guard,m.burst,m.pat,m.now,m.state,m.begun,m.wake,m.last,m.spent,m.missed+1⟩:=
 h.trans ⟨Blk.set_ h.1 10 _,only_set (only_refl _ _) _ _⟩
theorem At.drewN {w:World} {g:Nat} {m:Aw.M} (h:At w g m) (n:Nat):At (w.drewN n) g m:=h
theorem settle2_sleep (m:Aw.M) (h2:m.state=2):m.settle=m.settle2:=by simp[Aw.M.settle,h2]
theorem settle2_wait (m:Aw.M) (h2:m.state=3):m.settle=m.settle2:=by simp[Aw.M.settle,h2]
theorem settle2_over (m:Aw.M) (h4:m.state=4) (h:m.burst≤m.now-m.begun):m.settle=m.rest.settle2:=by simp[Aw.M.settle,h4,h]
theorem s2_asleep (m:Aw.M) (h2:m.state=2) (h:m.now<m.wake):m.settle2=m:=by simp[Aw.M.settle2,h2,h]
theorem s2_awaken (m:Aw.M) (h2:m.state=2) (h: ¬m.now<m.wake):m.settle2=(m.setState 3).expire:=by simp[Aw.M.settle2,h2,h]
theorem s2_wait (m:Aw.M) (h2:m.state=3):m.settle2=m.expire:=by simp[Aw.M.settle2,h2]
theorem s2_else (m:Aw.M) (h2: ¬m.state=2) (h3: ¬m.state=3):m.settle2=m:=by simp[Aw.M.settle2,h2,h3]
theorem expire_no (m:Aw.M) (h: ¬m.last+m.pat<m.now):m.expire=m:=by simp[Aw.M.expire,h]
theorem expire_yes (m:Aw.M) (h:m.last+m.pat<m.now):m.expire=⟨m.reset.unit,m.reset.guard,m.reset.burst,m.reset.pat,m.reset.now,m.reset.state,m.reset.begun,m.reset.wake,m.reset.last,m.reset.spent,m.reset.missed+1⟩:=by simp[Aw.M.expire,h,Aw.M.reset]
set_option maxHeartbeats 400000 in
theorem settle_sleep (m:Aw.M) (g:Nat) (w:World) (hm:At w g m) (hs:Small m) (h2:m.state=2):
 Calls Tryz.prog 49 #[.pointer (some ⟨g,0,none⟩)] w fun e w'=>e= .returned (.tuple #[])∧Turned w w' g m.settle:=by
 obtain⟨n1,n2,b1,b2,w1,w2,p1,p2,x1,x2⟩:=hs;obtain⟨c0,c1,c2,c3,c4,c5,c6,c7,c8,c9,c10,z5,z7,z8⟩:=AwB.facts_of hm;rw[settle2_sleep m h2];rw[h2]at c5;have e4:((2:Int)==4)=false:=rfl;by_cases hw:m.now<m.wake
 ·rw[s2_asleep m h2 hw]
  clear h2
  go_enter Tryz.func49,Tryz.ntmps49
  go_wp2_with (first|go_quiet (fail))
  all_goals (first|(refine bodyPost_ret (results_none rfl _ _ _) rfl ?_)|go_end0)
  exact⟨rfl,((Turned.refl hm).drewN _).drewN _⟩
 ·rw[s2_awaken m h2 hw]
  clear h2;by_cases hx:m.last+m.pat<m.now
  ·rw[expire_yes _ (by exact hx)]
   go_enter Tryz.func49,Tryz.ntmps49
   go_wp2_with (first|go_quiet (fail))
   have h1:=fun a b=>(((Turned.refl hm).drewN a).state 3).drewN b
   (with_reducible refine(reset_any (m.setState 3) g _ (h1 _ _).1).mono ?_);rintro e w1 ⟨rfl,ht⟩
   have h3:=(h1 _ _).trans ht;have d10:=Blk.cell ht.1 10 (v:= .int .i64 m.missed) rfl;have y10:=Blk.frozen ht.1 10
   go_wp2
   all_goals (first|(refine bodyPost_ret (results_none rfl _ _ _) rfl ?_)|go_end0)
   exact⟨rfl,h3.miss⟩
  ·rw[expire_no _ (by exact hx)]
   go_enter Tryz.func49,Tryz.ntmps49
   go_wp2_with (first|go_quiet (fail))
   all_goals (first|(refine bodyPost_ret (results_none rfl _ _ _) rfl ?_)|go_end0)
   exact⟨rfl,(((Turned.refl hm).drewN _).state 3).drewN _⟩
set_option maxHeartbeats 400000 in
theorem settle_wait (m:Aw.M) (g:Nat) (w:World) (hm:At w g m) (hs:Small m) (h2:m.state=3):
 Calls Tryz.prog 49 #[.pointer (some ⟨g,0,none⟩)] w fun e w'=>e= .returned (.tuple #[])∧Turned w w' g m.settle:=by
 obtain⟨n1,n2,b1,b2,w1,w2,p1,p2,x1,x2⟩:=hs;obtain⟨c0,c1,c2,c3,c4,c5,c6,c7,c8,c9,c10,z5,z7,z8⟩:=AwB.facts_of hm;rw[settle2_wait m h2,s2_wait m h2];rw[h2]at c5;have e4:((3:Int)==4)=false:=rfl;clear h2;by_cases hx:m.last+m.pat<m.now
 ·rw[expire_yes _ (by exact hx)]
  go_enter Tryz.func49,Tryz.ntmps49
  go_wp2_with (first|go_quiet (fail))
  have h1:=fun a=>(Turned.refl hm).drewN a
  (with_reducible refine(reset_any m g _ (h1 _).at_).mono ?_);rintro e w1 ⟨rfl,ht⟩
  have h3:=(h1 _).trans ht;have d10:=Blk.cell ht.1 10 (v:= .int .i64 m.missed) rfl;have y10:=Blk.frozen ht.1 10
  go_wp2
  all_goals (first|(refine bodyPost_ret (results_none rfl _ _ _) rfl ?_)|go_end0)
  exact⟨rfl,h3.miss⟩
 ·rw[expire_no _ (by exact hx)]
  go_enter Tryz.func49,Tryz.ntmps49
  go_wp2_with (first|go_quiet (fail))
  all_goals (first|(refine bodyPost_ret (results_none rfl _ _ _) rfl ?_)|go_end0)
  exact⟨rfl,(Turned.refl hm).drewN _⟩
set_option maxHeartbeats 400000 in
theorem settle_else (m:Aw.M) (g:Nat) (w:World) (hm:At w g m) (hs:Small m) (h2: ¬m.state=2) (h3: ¬m.state=3) (h4: ¬(m.state=4∧m.burst≤m.now-m.begun)):
 Calls Tryz.prog 49 #[.pointer (some ⟨g,0,none⟩)] w fun e w'=>e= .returned (.tuple #[])∧Turned w w' g m.settle:=by
 obtain⟨n1,n2,b1,b2,w1,w2,p1,p2,x1,x2⟩:=hs;obtain⟨c0,c1,c2,c3,c4,c5,c6,c7,c8,c9,c10,z5,z7,z8⟩:=AwB.facts_of hm
 have e:m.settle=m:=by
  have:m.settle=m.settle2:=by unfold Aw.M.settle;rw[if_neg h4]
  rw[this,s2_else m h2 h3]
 rw[e];clear e;have e2:(m.state==2)=false:=by simpa using h2
 have e3:(m.state==3)=false:=by simpa using h3
 by_cases h:m.state=4
 ·have hb: ¬m.burst≤m.now-m.begun:=fun hb=>h4 ⟨h,hb⟩
  have hb':decide (m.burst≤m.now-m.begun)=false:=by simpa using hb
  have e4:(m.state==4)=true:=by simpa using h
  clear h4 h h2 h3
  go_enter Tryz.func49,Tryz.ntmps49
  go_wp2_with (first|go_quiet (fail))
  all_goals (first|(refine bodyPost_ret (results_none rfl _ _ _) rfl ?_)|go_end0)
  exact⟨rfl,(Turned.refl hm).drewN _⟩
 ·have e4:(m.state==4)=false:=by simpa using h
  clear h4 h h2 h3
  go_enter Tryz.func49,Tryz.ntmps49
  go_wp2_with (first|go_quiet (fail))
  all_goals (first|(refine bodyPost_ret (results_none rfl _ _ _) rfl ?_)|go_end0)
  exact⟨rfl,(Turned.refl hm).drewN _⟩
set_option maxHeartbeats 400000 in
theorem settle_over1 (m:Aw.M) (g:Nat) (w:World) (hm:At w g m) (hs:Small m) (h4:m.state=4) (hb:m.burst≤m.now-m.begun) (hk:m.wake=0∧m.last=0):
 Calls Tryz.prog 49 #[.pointer (some ⟨g,0,none⟩)] w fun e w'=>e= .returned (.tuple #[])∧Turned w w' g m.settle:=by
 obtain⟨n1,n2,b1,b2,w1,w2,p1,p2,x1,x2⟩:=hs;obtain⟨c0,c1,c2,c3,c4,c5,c6,c7,c8,c9,c10,z5,z7,z8⟩:=AwB.facts_of hm;have er:m.rest=m.reset:=rest_yes m hk.1 hk.2;rw[settle2_over m h4 hb,er,s2_else _ (by simp[Aw.M.reset]) (by simp[Aw.M.reset])];have kr:=rest_any m g;rw[er]at kr;have hb':decide (m.burst≤m.now-m.begun)=true:=by simpa using hb
 rw[h4]at c5;have e4:((4:Int)==4)=true:=rfl;clear h4 er hk
 go_enter Tryz.func49,Tryz.ntmps49
 go_wp2_with (first|go_quiet (fail))
 (with_reducible refine(kr _ (At.drewN hm _)).mono ?_);rintro e w1 ⟨rfl,ht⟩
 have h3:=((Turned.refl hm).drewN _).trans ht;have d5:=Blk.cell ht.1 5 (v:= .int .i64 1) rfl
 go_wp2_with (first|go_quiet (fail))
 all_goals (first|(refine bodyPost_ret (results_none rfl _ _ _) rfl ?_)|go_end0)
 exact⟨rfl,h3⟩
set_option maxHeartbeats 400000 in
theorem settle_over2a (m:Aw.M) (g:Nat) (w:World) (hm:At w g m) (hs:Small m) (h4:m.state=4) (hb:m.burst≤m.now-m.begun) (hk: ¬(m.wake=0∧m.last=0)) (hw:m.now<m.wake):
 Calls Tryz.prog 49 #[.pointer (some ⟨g,0,none⟩)] w fun e w'=>e= .returned (.tuple #[])∧Turned w w' g m.settle:=by
 obtain⟨n1,n2,b1,b2,w1,w2,p1,p2,x1,x2⟩:=hs;obtain⟨c0,c1,c2,c3,c4,c5,c6,c7,c8,c9,c10,z5,z7,z8⟩:=AwB.facts_of hm;have er:m.rest=m.setState 2:=by unfold Aw.M.rest;rw[if_neg hk]
 have kr:=rest_any m g;rw[er]at kr;have hb':decide (m.burst≤m.now-m.begun)=true:=by simpa using hb
 rw[settle2_over m h4 hb,er];rw[h4]at c5;have e4:((4:Int)==4)=true:=rfl;clear h4 er hk;rw[s2_asleep _ rfl (by exact hw)]
 go_enter Tryz.func49,Tryz.ntmps49
 go_wp2_with (first|go_quiet (fail))
 (with_reducible refine(kr _ (At.drewN hm _)).mono ?_);rintro e w1 ⟨rfl,ht⟩
 have h3:=((Turned.refl hm).drewN _).trans ht;have d1:=Blk.cell ht.1 4 (v:= .int .i64 m.now) rfl;have d3:=Blk.cell ht.1 3 (v:= .int .i64 m.pat) rfl;have d5:=Blk.cell ht.1 5 (v:= .int .i64 2) rfl;have d7:=Blk.cell ht.1 7 (v:= .int .i64 m.wake) rfl;have d8:=Blk.cell ht.1 8 (v:= .int .i64 m.last) rfl;have y5:=Blk.frozen ht.1 5
 go_wp2_with (first|go_quiet (fail))
 all_goals (first|(refine bodyPost_ret (results_none rfl _ _ _) rfl ?_)|go_end0)
 exact⟨rfl,h3.drewN _⟩
set_option maxHeartbeats 400000 in
theorem settle_over2b (m:Aw.M) (g:Nat) (w:World) (hm:At w g m) (hs:Small m) (h4:m.state=4) (hb:m.burst≤m.now-m.begun) (hk: ¬(m.wake=0∧m.last=0)) (hw: ¬m.now<m.wake) (hx: ¬m.last+m.pat<m.now):
 Calls Tryz.prog 49 #[.pointer (some ⟨g,0,none⟩)] w fun e w'=>e= .returned (.tuple #[])∧Turned w w' g m.settle:=by
 obtain⟨n1,n2,b1,b2,w1,w2,p1,p2,x1,x2⟩:=hs;obtain⟨c0,c1,c2,c3,c4,c5,c6,c7,c8,c9,c10,z5,z7,z8⟩:=AwB.facts_of hm;have er:m.rest=m.setState 2:=by unfold Aw.M.rest;rw[if_neg hk]
 have kr:=rest_any m g;rw[er]at kr;have hb':decide (m.burst≤m.now-m.begun)=true:=by simpa using hb
 rw[settle2_over m h4 hb,er];rw[h4]at c5;have e4:((4:Int)==4)=true:=rfl;clear h4 er hk;rw[s2_awaken _ rfl (by exact hw),expire_no _ (by exact hx)]
 go_enter Tryz.func49,Tryz.ntmps49
 go_wp2_with (first|go_quiet (fail))
 (with_reducible refine(kr _ (At.drewN hm _)).mono ?_);rintro e w1 ⟨rfl,ht⟩
 have h3:=((Turned.refl hm).drewN _).trans ht;have d1:=Blk.cell ht.1 4 (v:= .int .i64 m.now) rfl;have d3:=Blk.cell ht.1 3 (v:= .int .i64 m.pat) rfl;have d5:=Blk.cell ht.1 5 (v:= .int .i64 2) rfl;have d7:=Blk.cell ht.1 7 (v:= .int .i64 m.wake) rfl;have d8:=Blk.cell ht.1 8 (v:= .int .i64 m.last) rfl;have y5:=Blk.frozen ht.1 5
 go_wp2_with (first|go_quiet (fail))
 all_goals (first|(refine bodyPost_ret (results_none rfl _ _ _) rfl ?_)|go_end0)
 exact⟨rfl,((h3.drewN _).state 3).drewN _⟩
set_option maxHeartbeats 400000 in
theorem settle_over2c (m:Aw.M) (g:Nat) (w:World) (hm:At w g m) (hs:Small m) (h4:m.state=4) (hb:m.burst≤m.now-m.begun) (hk: ¬(m.wake=0∧m.last=0)) (hw: ¬m.now<m.wake) (hx:m.last+m.pat<m.now):
 Calls Tryz.prog 49 #[.pointer (some ⟨g,0,none⟩)] w fun e w'=>e= .returned (.tuple #[])∧Turned w w' g m.settle:=by
 obtain⟨n1,n2,b1,b2,w1,w2,p1,p2,x1,x2⟩:=hs;obtain⟨c0,c1,c2,c3,c4,c5,c6,c7,c8,c9,c10,z5,z7,z8⟩:=AwB.facts_of hm;have er:m.rest=m.setState 2:=by unfold Aw.M.rest;rw[if_neg hk]
 have kr:=rest_any m g;rw[er]at kr;have hb':decide (m.burst≤m.now-m.begun)=true:=by simpa using hb
 rw[settle2_over m h4 hb,er];rw[h4]at c5;have e4:((4:Int)==4)=true:=rfl;clear h4 er hk;rw[s2_awaken _ rfl (by exact hw),expire_yes _ (by exact hx)]
 go_enter Tryz.func49,Tryz.ntmps49
 go_wp2_with (first|go_quiet (fail))
 (with_reducible refine(kr _ (At.drewN hm _)).mono ?_);rintro e w1 ⟨rfl,ht⟩
 have h3:=((Turned.refl hm).drewN _).trans ht;have d1:=Blk.cell ht.1 4 (v:= .int .i64 m.now) rfl;have d3:=Blk.cell ht.1 3 (v:= .int .i64 m.pat) rfl;have d5:=Blk.cell ht.1 5 (v:= .int .i64 2) rfl;have d7:=Blk.cell ht.1 7 (v:= .int .i64 m.wake) rfl;have d8:=Blk.cell ht.1 8 (v:= .int .i64 m.last) rfl;have y5:=Blk.frozen ht.1 5
 go_wp2_with (first|go_quiet (fail))
 have h6:=fun a b=>((h3.drewN a).state 3).drewN b
 (with_reducible refine(reset_any _ g _ (h6 _ _).at_).mono ?_);rintro e w2 ⟨rfl,ht2⟩
 have h7:=(h6 _ _).trans ht2;have d10:=Blk.cell ht2.1 10 (v:= .int .i64 m.missed) rfl;have y10:=Blk.frozen ht2.1 10
 go_wp2
 all_goals (first|(refine bodyPost_ret (results_none rfl _ _ _) rfl ?_)|go_end0)
 exact⟨rfl,h7.miss⟩
theorem settle_any (m:Aw.M) (g:Nat) (w:World) (hm:At w g m) (hs:Small m):
 Calls Tryz.prog 49 #[.pointer (some ⟨g,0,none⟩)] w fun e w'=>e= .returned (.tuple #[])∧Turned w w' g m.settle:=by
 by_cases h2:m.state=2
 ·exact settle_sleep m g w hm hs h2
 by_cases h3:m.state=3
 ·exact settle_wait m g w hm hs h3
 by_cases h4:m.state=4∧m.burst≤m.now-m.begun
 ·by_cases hk:m.wake=0∧m.last=0
  ·exact settle_over1 m g w hm hs h4.1 h4.2 hk
  by_cases hw:m.now<m.wake
  ·exact settle_over2a m g w hm hs h4.1 h4.2 hk hw
  by_cases hx:m.last+m.pat<m.now
  ·exact settle_over2c m g w hm hs h4.1 h4.2 hk hw hx
  ·exact settle_over2b m g w hm hs h4.1 h4.2 hk hw hx
 ·exact settle_else m g w hm hs h2 h3 h4
end Go.Proofs.YtdbpkhnmhddmmaaGreatDoor.AwB
namespace Go.Proofs.YtdbpkhnmhddmmaaGreatDoor.AwC
open Go.RowKit Q Mem AwA AwB
theorem turned_tick (m:Aw.M) (g:Nat) (w:World) (hm:At w g m) (s:Int):Turned w ((w.setCell ⟨g,9,none⟩ (.int .i64 s)).setCell ⟨g,4,none⟩ (.int .i64 (m.now+1))) g ⟨m.unit,m.guard,m.burst,m.pat,m.now+1,m.state,m.begun,m.wake,m.last,s,m.missed⟩:=
 ⟨Blk.set_ (Blk.set_ hm 9 _) 4 _,only_set (only_set (only_refl _ _) _ _) _ _⟩
theorem turned_tick0 (m:Aw.M) (g:Nat) (w:World) (hm:At w g m):Turned w (w.setCell ⟨g,4,none⟩ (.int .i64 (m.now+1))) g ⟨m.unit,m.guard,m.burst,m.pat,m.now+1,m.state,m.begun,m.wake,m.last,m.spent,m.missed⟩:=
 ⟨Blk.set_ hm 4 _,only_set (only_refl _ _) _ _⟩
theorem small_tick (m:Aw.M) (hi:m.Inv) (hn:m.now<1099511627775) (s:Int):Small ⟨m.unit,m.guard,m.burst,m.pat,m.now+1,m.state,m.begun,m.wake,m.last,s,m.missed⟩:=by
 have:=hi.n1;have:=hi.e1;have:=hi.e2;have:=hi.w1;have:=hi.w2;have:=hi.l2;have:=hi.p1;have:=hi.p2;have:=hi.m1;have:=hi.m2;constructor<;>simp only<;>omega
set_option maxHeartbeats 400000 in
theorem next_any (m:Aw.M) (g:Nat) (w:World) (hm:At w g m) (hi:m.Inv):
 Calls Tryz.prog 23 #[.pointer (some ⟨g,0,none⟩)] w fun e w'=>e= .returned (.tuple #[])∧Turned w w' g m.next:=by
 have hn1:=hi.n1;have hn2:=hi.n2;have ht1:=hi.t1;have ht2:=hi.t2;have c4:=Blk.cell hm 4 (v:= .int .i64 m.now) rfl;have c9:=Blk.cell hm 9 (v:= .int .i64 m.spent) rfl;have z4:=Blk.frozen hm 4;have z9:=Blk.frozen hm 9;by_cases hn:1099511627775≤m.now
 ·have e:m.next=m:=by unfold Aw.M.next;rw[if_pos hn]
  rw[e]
  go_enter Tryz.func23,Tryz.ntmps23
  go_wp2
  all_goals (first|(refine bodyPost_ret (results_none rfl _ _ _) rfl ?_)|go_end0)
  exact⟨rfl,Turned.refl hm⟩
 ·have e:m.next=m.tick.settle:=by unfold Aw.M.next;rw[if_neg hn]
  rw[e];by_cases h2:m.state=2
  ·have e2:m.tick=⟨m.unit,m.guard,m.burst,m.pat,m.now+1,m.state,m.begun,m.wake,m.last,m.spent,m.missed⟩:=by unfold Aw.M.tick;rw[if_pos h2]
   have eb:(m.state !=2)=false:=by simpa using h2
   have k0:=awake_any m g w hm;rw[eb]at k0;rw[e2];clear e e2 eb h2
   go_enter Tryz.func23,Tryz.ntmps23
   go_wp2_with (go_at_call 20;(with_reducible refine(k0).mono ?_);rintro e w' ⟨rfl,rfl⟩)
   have h1:=turned_tick0 m g w hm
   (with_reducible refine(settle_any _ g _ h1.at_ (small_tick m hi hn _)).mono ?_);rintro e w1 ⟨rfl,ht⟩
   go_wp2
   all_goals (first|(refine bodyPost_ret (results_none rfl _ _ _) rfl ?_)|go_end0)
   exact⟨rfl,h1.trans ht⟩
  ·have e2:m.tick=⟨m.unit,m.guard,m.burst,m.pat,m.now+1,m.state,m.begun,m.wake,m.last,m.spent+1,m.missed⟩:=by unfold Aw.M.tick;rw[if_neg h2]
   have eb:(m.state !=2)=true:=by simpa using h2
   have k0:=awake_any m g w hm;rw[eb]at k0;rw[e2];clear e e2 eb h2
   go_enter Tryz.func23,Tryz.ntmps23
   go_wp2_with (go_at_call 20;(with_reducible refine(k0).mono ?_);rintro e w' ⟨rfl,rfl⟩)
   have h1:=turned_tick m g w hm (m.spent+1)
   (with_reducible refine(settle_any _ g _ h1.at_ (small_tick m hi hn _)).mono ?_);rintro e w1 ⟨rfl,ht⟩
   go_wp2
   all_goals (first|(refine bodyPost_ret (results_none rfl _ _ _) rfl ?_)|go_end0)
   exact⟨rfl,h1.trans ht⟩
def stat (m:Aw.M):Value:= .agg #[.int .i64 m.now,.int .i64 m.state,.int .i64 m.wake,.int .i64 m.last,.int .i64 m.spent,.int .i64 m.missed]
def stat0:Value:= .agg #[.int .i64 0,.int .i64 0,.int .i64 0,.int .i64 0,.int .i64 0,.int .i64 0]
theorem stat_nil (w:World):Calls Tryz.prog 46 #[.pointer none] w fun e w'=>e= .returned stat0∧Below w.heap.size w w':=by
 go_enter Tryz.func46,Tryz.ntmps46
 go_wp2
 refine bodyPost_ret (v:=stat0) (by simp[results,Tryz.results46,go_sem,stat0]) rfl ⟨rfl,?_⟩;exact(Below.refl _ _).alloc (Nat.le_refl _) _
set_option maxHeartbeats 400000 in
theorem stat_any (m:Aw.M) (g:Nat) (w:World) (hm:At w g m):Calls Tryz.prog 46 #[.pointer (some ⟨g,0,none⟩)] w fun e w'=>e= .returned (stat m)∧Below w.heap.size w w':=by
 have hlt:g<w.heap.size:=Blk.lt hm;have c4:=fun o p=>Blk.cell (blk_ext (Blk.alloc hm o) p) 4 (v:= .int .i64 m.now) rfl;have c5:=fun o p=>Blk.cell (blk_ext (Blk.alloc hm o) p) 5 (v:= .int .i64 m.state) rfl;have c7:=fun o p=>Blk.cell (blk_ext (Blk.alloc hm o) p) 7 (v:= .int .i64 m.wake) rfl;have c8:=fun o p=>Blk.cell (blk_ext (Blk.alloc hm o) p) 8 (v:= .int .i64 m.last) rfl;have c9:=fun o p=>Blk.cell (blk_ext (Blk.alloc hm o) p) 9 (v:= .int .i64 m.spent) rfl;have c10:=fun o p=>Blk.cell (blk_ext (Blk.alloc hm o) p) 10 (v:= .int .i64 m.missed) rfl
 go_enter Tryz.func46,Tryz.ntmps46
 go_wp2
 refine Go.Proofs.YtdbpkhnmhddmmaaGreatDoor.Q.region_ext_tail 27 (by kernel_rfl) (by kernel_rfl) ?_;simp only[List.take_succ_cons,List.take_zero,List.drop_succ_cons,List.drop_zero]
 repeat (go_big_quiet_step (fail))
 refine wpQuiet_nil ?_;rintro w1 ⟨pq,hw1⟩;have hk:Blk w1 w.heap.size 44 #[.int .i64 0,.int .i64 0,.int .i64 0,.int .i64 0,.int .i64 0,.int .i64 0]:=by rw[hw1];exact blk_ext (Blk.new w _ _) pq
 have hb1:Below w.heap.size w w1:=by rw[hw1];exact((Below.refl _ _).alloc (Nat.le_refl _) _).trans ((below_ext _ pq).mono (by simp))
 clear hw1 c4 c5 c7 c8 c9 c10;have k0:=Blk.cell hk 0 (v:= .int .i64 0) rfl;have k1:=Blk.cell hk 1 (v:= .int .i64 0) rfl;have k2:=Blk.cell hk 2 (v:= .int .i64 0) rfl;have k3:=Blk.cell hk 3 (v:= .int .i64 0) rfl;have k4:=Blk.cell hk 4 (v:= .int .i64 0) rfl;have k5:=Blk.cell hk 5 (v:= .int .i64 0) rfl;have z0:=Blk.frozen hk 0;have z1:=Blk.frozen hk 1;have z2:=Blk.frozen hk 2;have z3:=Blk.frozen hk 3;have z4:=Blk.frozen hk 4;have z5:=Blk.frozen hk 5
 go_wp2
 refine bodyPost_ret (v:=stat m) (by simp[results,Tryz.results46,go_sem,stat,k0,k1,k2,k3,k4,k5]) rfl ⟨rfl,?_⟩;exact(((((hb1.setCell (by simp) _).setCell (by simp) _).setCell (by simp) _).setCell (by simp) _).setCell (by simp) _).setCell (by simp) _
end Go.Proofs.YtdbpkhnmhddmmaaGreatDoor.AwC
namespace Go.Proofs.YtdbpkhnmhddmmaaGreatDoor.AwD
open Go.RowKit Q Mem AwA AwB AwC
theorem heard_sleep (m:Aw.M) (g:Nat) (d a:Int) (tb fr:Bool) (w:World) (hm:At w g m) (h2:m.state=2):
 Calls Tryz.prog 47 #[.pointer (some ⟨g,0,none⟩),.agg #[.int .i64 d,.bool tb,.bool fr,.int .i64 a]] w fun e w'=>e= .returned (.int .i64 22)∧Turned w w' g m:=by
 have hlt:g<w.heap.size:=Blk.lt hm;have c5:=Blk.cell hm 5 (v:= .int .i64 m.state) rfl;rw[h2]at c5;clear h2
 go_enter Tryz.func47,Tryz.ntmps47
 go_wp2
 go_ret;exact⟨rfl,Blk.alloc hm _,only_alloc (only_refl _ _) _⟩
theorem heard_bad (m:Aw.M) (g:Nat) (d a:Int) (tb fr:Bool) (w:World) (hm:At w g m) (h2: ¬m.state=2) (hE:Aw.timesE d a=15):
 Calls Tryz.prog 47 #[.pointer (some ⟨g,0,none⟩),.agg #[.int .i64 d,.bool tb,.bool fr,.int .i64 a]] w fun e w'=>e= .returned (.int .i64 15)∧Turned w w' g m:=by
 have hlt:g<w.heap.size:=Blk.lt hm;have c5:=Blk.cell hm 5 (v:= .int .i64 m.state) rfl;have e2:(m.state==2)=false:=by simpa using h2
 have k0:=times_check d a;rw[hE]at k0;clear h2 hE
 go_enter Tryz.func47,Tryz.ntmps47
 go_wp2_with (go_at_call 85;(with_reducible refine(k0 _ _ _).mono ?_);rintro e w' ⟨rfl,rfl⟩)
 go_ret;exact⟨rfl,Blk.alloc (Blk.alloc hm _) _,only_alloc (only_alloc (only_refl _ _) _) _⟩
def clean (m:Aw.M):Aw.M:=⟨m.enter.unit,m.enter.guard,m.enter.burst,m.enter.pat,m.enter.now,m.enter.state,m.enter.begun,0,0,m.enter.spent,m.enter.missed⟩
def wakeAt (m:Aw.M) (x:Int):Aw.M:=⟨m.unit,m.guard,m.burst,m.pat,m.now,m.state,m.begun,x,m.last,m.spent,m.missed⟩
def lastAt (m:Aw.M) (x:Int):Aw.M:=⟨m.unit,m.guard,m.burst,m.pat,m.now,m.state,m.begun,m.wake,x,m.spent,m.missed⟩
theorem turned_wake (m:Aw.M) (g:Nat) (w:World) (hm:At w g m) (x:Int):Turned w (w.setCell ⟨g,7,none⟩ (.int .i64 x)) g (wakeAt m x):=
 ⟨Blk.set_ hm 7 _,only_set (only_refl _ _) _ _⟩
theorem turned_last (m:Aw.M) (g:Nat) (w:World) (hm:At w g m) (x:Int):Turned w (w.setCell ⟨g,8,none⟩ (.int .i64 x)) g (lastAt m x):=
 ⟨Blk.set_ hm 8 _,only_set (only_refl _ _) _ _⟩
theorem Turned.alloc {w w':World} {g:Nat} {m:Aw.M} (h:Turned w w' g m) (o:Obj):Turned w (w'.alloc o) g m:=⟨Blk.alloc h.at_ o,only_alloc h.only o⟩
theorem entered (m:Aw.M) (g:Nat) (w:World) (hm:At w g m):
 Turned w ((((w.setCell ⟨g,5,none⟩ (.int .i64 4)).setCell ⟨g,6,none⟩ (.int .i64 m.now)).setCell ⟨g,7,none⟩ (.int .i64 0)).setCell ⟨g,8,none⟩ (.int .i64 0)) g ⟨m.unit,m.guard,m.burst,m.pat,m.now,4,m.now,0,0,m.spent,m.missed⟩:=
 ⟨(((Blk.set_ hm 5 (.int .i64 4)).set_ 6 (.int .i64 m.now)).set_ 7 (.int .i64 0)).set_ 8 (.int .i64 0),only_set (only_set (only_set (only_set (only_refl _ _) _ _) _ _) _ _) _ _⟩
theorem cleared (m:Aw.M) (g:Nat) (w:World) (hm:At w g m):
 Turned w ((w.setCell ⟨g,7,none⟩ (.int .i64 0)).setCell ⟨g,8,none⟩ (.int .i64 0)) g ⟨m.unit,m.guard,m.burst,m.pat,m.now,m.state,m.begun,0,0,m.spent,m.missed⟩:=
 ⟨(Blk.set_ hm 7 (.int .i64 0)).set_ 8 (.int .i64 0),only_set (only_set (only_refl _ _) _ _) _ _⟩
structure Hears (w W:World) (g:Nat) (m:Aw.M) (d a:Int) (tb fr:Bool):Prop where
 t:Turned w W g m
 b:Blk W w.heap.size 106 #[.int .i64 d,.bool tb,.bool fr,.int .i64 a]
theorem Hears.wake {w W:World} {g:Nat} {m:Aw.M} {d a:Int} {tb fr:Bool} (h:Hears w W g m d a tb fr) (hg:g<w.heap.size) (x:Int):Hears w (W.setCell ⟨g,7,none⟩ (.int .i64 x)) g (wakeAt m x) d a tb fr:=
 ⟨h.t.trans (turned_wake m g W h.t.at_ x),Blk.far h.b (by simp;omega) _⟩
theorem Hears.last {w W:World} {g:Nat} {m:Aw.M} {d a:Int} {tb fr:Bool} (h:Hears w W g m d a tb fr) (hg:g<w.heap.size) (x:Int):Hears w (W.setCell ⟨g,8,none⟩ (.int .i64 x)) g (lastAt m x) d a tb fr:=
 ⟨h.t.trans (turned_last m g W h.t.at_ x),Blk.far h.b (by simp;omega) _⟩
theorem Turned.drew {w w':World} {g:Nat} {m:Aw.M} (h:Turned w w' g m):Turned w w'.drew g m:=⟨h.1,only_drew h.2⟩
def told (m:Aw.M) (d:Int):Aw.M:=lastAt (wakeAt (clean m) (max m.now (Aw.firstOf m.now d m.unit-m.guard))) (m.now+d*m.unit)
theorem know_yes (m:Aw.M) (d:Int) (hd:0<d):m.enter.know d=told m d:=by
 have e:Aw.wakeOf m.now d m.unit m.guard=max m.now (Aw.firstOf m.now d m.unit-m.guard):=by unfold Aw.wakeOf Aw.firstOf;omega
 unfold Aw.M.know told lastAt wakeAt clean;rw[if_pos hd];have e1:m.enter.now=m.now:=by unfold Aw.M.enter;split<;>rfl
 have e2:m.enter.unit=m.unit:=by unfold Aw.M.enter;split<;>rfl
 have e3:m.enter.guard=m.guard:=by unfold Aw.M.enter;split<;>rfl
 simp only[e1,e2,e3,e]
theorem know_no (m:Aw.M) (d:Int) (hd:d≤0):m.enter.know d=clean m:=by
 unfold Aw.M.know clean;rw[if_neg (by omega)]
theorem hear_frame (m:Aw.M) (d:Int):m.hear d true=(m.enter.know d).rest.settle:=rfl
theorem hear_mid (m:Aw.M) (d:Int):m.hear d false=m.enter.know d:=rfl
theorem small_rest (m:Aw.M) (h:Small m):Small m.rest:=by
 obtain⟨n1,n2,b1,b2,w1,w2,p1,p2,x1,x2⟩:=h;unfold Aw.M.rest
 split
 ·constructor<;>simp only[Aw.M.reset]<;>first|assumption|omega
 ·constructor<;>simp only[Aw.M.setState]<;>assumption
theorem small_clean (m:Aw.M) (hi:m.Inv):Small (clean m):=by
 have:=hi.n1;have:=hi.n2;have:=hi.e1;have:=hi.e2;have:=hi.p1;have:=hi.p2;have:=hi.m1;have:=hi.m2;unfold clean Aw.M.enter;constructor<;>split<;>simp only<;>omega
theorem small_told (m:Aw.M) (hi:m.Inv) (d:Int) (hd:0<d) (hd':d<4096):Small (told m d):=by
 obtain⟨n1,n2,b1,b2,w1,w2,p1,p2,x1,x2⟩:=small_clean m hi;have i1:=hi.u1;have i2:=hi.u2;have i3:=hi.n1;have i4:=hi.n2;have hm0:0≤d*m.unit:=Int.mul_nonneg (by omega) (by omega);have hm1:d*m.unit≤4096*1048576:=Int.mul_le_mul (by omega) i2 (by omega) (by omega);unfold told lastAt wakeAt;constructor<;>simp only<;>first|assumption|omega
set_option maxHeartbeats 1000000 in
theorem heard_try1 (m:Aw.M) (g:Nat) (d a:Int) (tb fr:Bool) (w:World) (hm:At w g m) (hi:m.Inv) (h2: ¬m.state=2) (hE:Aw.timesE d a=0) (h4: ¬m.state=4) (hd:0<d) (hd':d<4096):
 Calls Tryz.prog 47 #[.pointer (some ⟨g,0,none⟩),.agg #[.int .i64 d,.bool tb,.bool fr,.int .i64 a]] w fun e w'=>e= .returned (.int .i64 0)∧Turned w w' g (m.hear d fr):=by
 have hlt:g<w.heap.size:=Blk.lt hm;obtain⟨c0,c1,c2,c3,c4,c5,c6,c7,c8,c9,c10,z5,z7,z8⟩:=AwB.facts_of hm;have z6:=Blk.frozen hm 6;have e2:(m.state==2)=false:=by simpa using h2
 have k0:=times_check d a;rw[hE]at k0;have e4:(m.state !=4)=true:=by simpa using h4
 have ec:clean m=⟨m.unit,m.guard,m.burst,m.pat,m.now,4,m.now,0,0,m.spent,m.missed⟩:=by unfold clean Aw.M.enter;rw[if_neg h4]
 clear h2 hE h4
 go_enter Tryz.func47,Tryz.ntmps47
 go_wp2_with (first|(go_at_call 85;(with_reducible refine(k0 _ _ _).mono ?_);rintro e w' ⟨rfl,rfl⟩))
 refine wp_gen (fun W=>Hears w W g ⟨m.unit,m.guard,m.burst,m.pat,m.now,4,m.now,0,0,m.spent,m.missed⟩ d a tb fr) (by exact⟨Turned.alloc (Turned.alloc (entered m g w hm) _) _,Blk.alloc (Blk.newAt _ _ _ (by simp[World.setCell])) _⟩) ?_;rintro W1 hW1;have HC:=Lib.hid ec;clear k0 c0 c1 c2 c3 c4 c5 c6 c7 c8 c9 c10 z5 z7 z8 z6 e2 e4 ec;have q4:=Blk.cell hW1.t.at_ 4 (v:= .int .i64 m.now) rfl;have q0:=Blk.cell hW1.t.at_ 0 (v:= .int .i64 m.unit) rfl;have q1:=Blk.cell hW1.t.at_ 1 (v:= .int .i64 m.guard) rfl;have q7:=Blk.cell hW1.t.at_ 7 (v:= .int .i64 0) rfl;have y7:=Blk.frozen hW1.t.at_ 7;have b0:=Blk.cell hW1.b 0 (v:= .int .i64 d) rfl;have i1:=hi.n1;have i2:=hi.n2;have i3:=hi.u1;have i4:=hi.u2;have i5:=hi.g1;have i6:=hi.g2;have s4:=fun x=>Blk.cell (hW1.wake hlt x).t.at_ 4 (v:= .int .i64 m.now) rfl;have s0:=fun x=>Blk.cell (hW1.wake hlt x).t.at_ 0 (v:= .int .i64 m.unit) rfl;have s1:=fun x=>Blk.cell (hW1.wake hlt x).t.at_ 1 (v:= .int .i64 m.guard) rfl;have s8:=fun x=>Blk.cell (hW1.wake hlt x).t.at_ 8 (v:= .int .i64 0) rfl;have v8:=fun x=>Blk.frozen (hW1.wake hlt x).t.at_ 8;have sb:=fun x=>Blk.cell (hW1.wake hlt x).b 0 (v:= .int .i64 d) rfl;have sb2:=fun x y=>Blk.cell ((hW1.wake hlt x).last hlt y).b 2 (v:= .bool fr) rfl;have r4:=fun x y=>Blk.cell ((hW1.wake hlt x).last hlt y).t.at_ 4 (v:= .int .i64 m.now) rfl;have r0:=fun x y=>Blk.cell ((hW1.wake hlt x).last hlt y).t.at_ 0 (v:= .int .i64 m.unit) rfl;have rb:=fun x y=>Blk.cell ((hW1.wake hlt x).last hlt y).b 0 (v:= .int .i64 d) rfl
 go_region_held3 (fun w'=>w'.cell? ⟨g,4,none⟩=some (.int .i64 m.now)∧w'.cell? ⟨w.heap.size,0,none⟩=some (.int .i64 d)∧w'.cell? ⟨g,0,none⟩=some (.int .i64 m.unit)∧w'.cell? ⟨g,1,none⟩=some (.int .i64 m.guard)) (first|exact⟨q4,b0,q0,q1⟩|exact⟨s4 _,sb _,s0 _,s1 _⟩) ((go_at_call 86;refine(wake_any _ _ _ _ _ i1 (by omega) (by omega) hd' i3 i4 i5 i6).mono ?_;rintro e w' ⟨rfl,rfl⟩))
 go_wp2_with fail
 go_region_held3 (fun w'=>w'.cell? ⟨g,4,none⟩=some (.int .i64 m.now)∧w'.cell? ⟨w.heap.size,0,none⟩=some (.int .i64 d)∧w'.cell? ⟨g,0,none⟩=some (.int .i64 m.unit)) (first|exact⟨s4 _,sb _,s0 _⟩|exact⟨r4 _ _,rb _ _,r0 _ _⟩) ((go_at_call 87;refine(window_any _ _ _ _ i1 (by omega) (by omega) hd' i3 i4).mono ?_;rintro e w' ⟨rfl,rfl⟩))
 have hT:Turned w ((W1.setCell ⟨g,7,none⟩ (.int .i64 (max m.now (Aw.firstOf m.now d m.unit-m.guard)))).setCell ⟨g,8,none⟩ (.int .i64 (m.now+d*m.unit))).drew.drew g (told m d):=by unfold told;rw[HC.out];exact Turned.drew (Turned.drew (((hW1.wake hlt _).last hlt _).t))
 clear HC q4 q0 q1 q7 y7 b0 i1 i2 i3 i4 i5 i6 s4 s0 s1 s8 v8 sb r4 r0 rb
 go_wp2_with fail
 ·(with_reducible refine(rest_any _ g _ (hT).at_).mono ?_);rintro e w2 ⟨rfl,t2⟩
  go_wp2_with fail
  (with_reducible refine(settle_any _ g _ t2.at_ (small_rest _ (small_told m hi d hd hd'))).mono ?_);rintro e w3 ⟨rfl,t3⟩
  go_wp2_with fail
  go_ret;exact⟨rfl,by subst_vars;rw[hear_frame];first|(rw[know_yes m d hd];exact((hT).trans t2).trans t3)|(rw[know_no m d hd];exact((hT).trans t2).trans t3)⟩
 ·go_ret
  exact⟨rfl,by subst_vars;rw[hear_mid];first|(rw[know_yes m d hd];exact hT)|(rw[know_no m d hd];exact hT)⟩
set_option maxHeartbeats 1000000 in
theorem heard_try2 (m:Aw.M) (g:Nat) (d a:Int) (tb fr:Bool) (w:World) (hm:At w g m) (hi:m.Inv) (h2: ¬m.state=2) (hE:Aw.timesE d a=0) (h4:m.state=4) (hd:0<d) (hd':d<4096):
 Calls Tryz.prog 47 #[.pointer (some ⟨g,0,none⟩),.agg #[.int .i64 d,.bool tb,.bool fr,.int .i64 a]] w fun e w'=>e= .returned (.int .i64 0)∧Turned w w' g (m.hear d fr):=by
 have hlt:g<w.heap.size:=Blk.lt hm;obtain⟨c0,c1,c2,c3,c4,c5,c6,c7,c8,c9,c10,z5,z7,z8⟩:=AwB.facts_of hm;have z6:=Blk.frozen hm 6;have e2:(m.state==2)=false:=by simpa using h2
 have k0:=times_check d a;rw[hE]at k0;have e4:(m.state !=4)=false:=by simpa using h4
 have ec:clean m=⟨m.unit,m.guard,m.burst,m.pat,m.now,m.state,m.begun,0,0,m.spent,m.missed⟩:=by unfold clean Aw.M.enter;rw[if_pos h4]
 clear h2 hE h4
 go_enter Tryz.func47,Tryz.ntmps47
 go_wp2_with (first|(go_at_call 85;(with_reducible refine(k0 _ _ _).mono ?_);rintro e w' ⟨rfl,rfl⟩))
 refine wp_gen (fun W=>Hears w W g ⟨m.unit,m.guard,m.burst,m.pat,m.now,m.state,m.begun,0,0,m.spent,m.missed⟩ d a tb fr) (by exact⟨Turned.alloc (Turned.alloc (cleared m g w hm) _) _,Blk.alloc (Blk.newAt _ _ _ (by simp[World.setCell])) _⟩) ?_;rintro W1 hW1;have HC:=Lib.hid ec;clear k0 c0 c1 c2 c3 c4 c5 c6 c7 c8 c9 c10 z5 z7 z8 z6 e2 e4 ec;have q4:=Blk.cell hW1.t.at_ 4 (v:= .int .i64 m.now) rfl;have q0:=Blk.cell hW1.t.at_ 0 (v:= .int .i64 m.unit) rfl;have q1:=Blk.cell hW1.t.at_ 1 (v:= .int .i64 m.guard) rfl;have q7:=Blk.cell hW1.t.at_ 7 (v:= .int .i64 0) rfl;have y7:=Blk.frozen hW1.t.at_ 7;have b0:=Blk.cell hW1.b 0 (v:= .int .i64 d) rfl;have i1:=hi.n1;have i2:=hi.n2;have i3:=hi.u1;have i4:=hi.u2;have i5:=hi.g1;have i6:=hi.g2;have s4:=fun x=>Blk.cell (hW1.wake hlt x).t.at_ 4 (v:= .int .i64 m.now) rfl;have s0:=fun x=>Blk.cell (hW1.wake hlt x).t.at_ 0 (v:= .int .i64 m.unit) rfl;have s1:=fun x=>Blk.cell (hW1.wake hlt x).t.at_ 1 (v:= .int .i64 m.guard) rfl;have s8:=fun x=>Blk.cell (hW1.wake hlt x).t.at_ 8 (v:= .int .i64 0) rfl;have v8:=fun x=>Blk.frozen (hW1.wake hlt x).t.at_ 8;have sb:=fun x=>Blk.cell (hW1.wake hlt x).b 0 (v:= .int .i64 d) rfl;have sb2:=fun x y=>Blk.cell ((hW1.wake hlt x).last hlt y).b 2 (v:= .bool fr) rfl;have r4:=fun x y=>Blk.cell ((hW1.wake hlt x).last hlt y).t.at_ 4 (v:= .int .i64 m.now) rfl;have r0:=fun x y=>Blk.cell ((hW1.wake hlt x).last hlt y).t.at_ 0 (v:= .int .i64 m.unit) rfl;have rb:=fun x y=>Blk.cell ((hW1.wake hlt x).last hlt y).b 0 (v:= .int .i64 d) rfl
 go_region_held3 (fun w'=>w'.cell? ⟨g,4,none⟩=some (.int .i64 m.now)∧w'.cell? ⟨w.heap.size,0,none⟩=some (.int .i64 d)∧w'.cell? ⟨g,0,none⟩=some (.int .i64 m.unit)∧w'.cell? ⟨g,1,none⟩=some (.int .i64 m.guard)) (first|exact⟨q4,b0,q0,q1⟩|exact⟨s4 _,sb _,s0 _,s1 _⟩) ((go_at_call 86;refine(wake_any _ _ _ _ _ i1 (by omega) (by omega) hd' i3 i4 i5 i6).mono ?_;rintro e w' ⟨rfl,rfl⟩))
 go_wp2_with fail
 go_region_held3 (fun w'=>w'.cell? ⟨g,4,none⟩=some (.int .i64 m.now)∧w'.cell? ⟨w.heap.size,0,none⟩=some (.int .i64 d)∧w'.cell? ⟨g,0,none⟩=some (.int .i64 m.unit)) (first|exact⟨s4 _,sb _,s0 _⟩|exact⟨r4 _ _,rb _ _,r0 _ _⟩) ((go_at_call 87;refine(window_any _ _ _ _ i1 (by omega) (by omega) hd' i3 i4).mono ?_;rintro e w' ⟨rfl,rfl⟩))
 have hT:Turned w ((W1.setCell ⟨g,7,none⟩ (.int .i64 (max m.now (Aw.firstOf m.now d m.unit-m.guard)))).setCell ⟨g,8,none⟩ (.int .i64 (m.now+d*m.unit))).drew.drew g (told m d):=by unfold told;rw[HC.out];exact Turned.drew (Turned.drew (((hW1.wake hlt _).last hlt _).t))
 clear HC q4 q0 q1 q7 y7 b0 i1 i2 i3 i4 i5 i6 s4 s0 s1 s8 v8 sb r4 r0 rb
 go_wp2_with fail
 ·(with_reducible refine(rest_any _ g _ (hT).at_).mono ?_);rintro e w2 ⟨rfl,t2⟩
  go_wp2_with fail
  (with_reducible refine(settle_any _ g _ t2.at_ (small_rest _ (small_told m hi d hd hd'))).mono ?_);rintro e w3 ⟨rfl,t3⟩
  go_wp2_with fail
  go_ret;exact⟨rfl,by subst_vars;rw[hear_frame];first|(rw[know_yes m d hd];exact((hT).trans t2).trans t3)|(rw[know_no m d hd];exact((hT).trans t2).trans t3)⟩
 ·go_ret
  exact⟨rfl,by subst_vars;rw[hear_mid];first|(rw[know_yes m d hd];exact hT)|(rw[know_no m d hd];exact hT)⟩
set_option maxHeartbeats 1000000 in
theorem heard_try3 (m:Aw.M) (g:Nat) (d a:Int) (tb fr:Bool) (w:World) (hm:At w g m) (hi:m.Inv) (h2: ¬m.state=2) (hE:Aw.timesE d a=0) (h4: ¬m.state=4) (hd: ¬0<d):
 Calls Tryz.prog 47 #[.pointer (some ⟨g,0,none⟩),.agg #[.int .i64 d,.bool tb,.bool fr,.int .i64 a]] w fun e w'=>e= .returned (.int .i64 0)∧Turned w w' g (m.hear d fr):=by
 have hlt:g<w.heap.size:=Blk.lt hm;obtain⟨c0,c1,c2,c3,c4,c5,c6,c7,c8,c9,c10,z5,z7,z8⟩:=AwB.facts_of hm;have z6:=Blk.frozen hm 6;have e2:(m.state==2)=false:=by simpa using h2
 have k0:=times_check d a;rw[hE]at k0;have e4:(m.state !=4)=true:=by simpa using h4
 have ec:clean m=⟨m.unit,m.guard,m.burst,m.pat,m.now,4,m.now,0,0,m.spent,m.missed⟩:=by unfold clean Aw.M.enter;rw[if_neg h4]
 have HT: ∀o o',Turned w ((((((w.setCell ⟨g,5,none⟩ (.int .i64 4)).setCell ⟨g,6,none⟩ (.int .i64 m.now)).setCell ⟨g,7,none⟩ (.int .i64 0)).setCell ⟨g,8,none⟩ (.int .i64 0)).alloc o).alloc o') g (clean m):=fun o o'=>by rw[ec];exact Turned.alloc (Turned.alloc (entered m g w hm) _) _
 clear ec;clear h2 hE h4
 go_enter Tryz.func47,Tryz.ntmps47
 go_wp2_with (first|(go_at_call 85;(with_reducible refine(k0 _ _ _).mono ?_);rintro e w' ⟨rfl,rfl⟩))
 ·(with_reducible refine(rest_any _ g _ ((HT _ _)).at_).mono ?_);rintro e w2 ⟨rfl,t2⟩
  go_wp2_with fail
  (with_reducible refine(settle_any _ g _ t2.at_ (small_rest _ (small_clean m hi))).mono ?_);rintro e w3 ⟨rfl,t3⟩
  go_wp2_with fail
  go_ret;exact⟨rfl,by subst_vars;rw[hear_frame];first|(rw[know_yes m d hd];exact(((HT _ _)).trans t2).trans t3)|(rw[know_no m d hd];exact(((HT _ _)).trans t2).trans t3)⟩
 ·go_ret
  exact⟨rfl,by subst_vars;rw[hear_mid];first|(rw[know_yes m d hd];exact(HT _ _))|(rw[know_no m d hd];exact(HT _ _))⟩
set_option maxHeartbeats 1000000 in
theorem heard_try4 (m:Aw.M) (g:Nat) (d a:Int) (tb fr:Bool) (w:World) (hm:At w g m) (hi:m.Inv) (h2: ¬m.state=2) (hE:Aw.timesE d a=0) (h4:m.state=4) (hd: ¬0<d):
 Calls Tryz.prog 47 #[.pointer (some ⟨g,0,none⟩),.agg #[.int .i64 d,.bool tb,.bool fr,.int .i64 a]] w fun e w'=>e= .returned (.int .i64 0)∧Turned w w' g (m.hear d fr):=by
 have hlt:g<w.heap.size:=Blk.lt hm;obtain⟨c0,c1,c2,c3,c4,c5,c6,c7,c8,c9,c10,z5,z7,z8⟩:=AwB.facts_of hm;have z6:=Blk.frozen hm 6;have e2:(m.state==2)=false:=by simpa using h2
 have k0:=times_check d a;rw[hE]at k0;have e4:(m.state !=4)=false:=by simpa using h4
 have ec:clean m=⟨m.unit,m.guard,m.burst,m.pat,m.now,m.state,m.begun,0,0,m.spent,m.missed⟩:=by unfold clean Aw.M.enter;rw[if_pos h4]
 have HT: ∀o o',Turned w ((((w.setCell ⟨g,7,none⟩ (.int .i64 0)).setCell ⟨g,8,none⟩ (.int .i64 0)).alloc o).alloc o') g (clean m):=fun o o'=>by rw[ec];exact Turned.alloc (Turned.alloc (cleared m g w hm) _) _
 clear ec;clear h2 hE h4
 go_enter Tryz.func47,Tryz.ntmps47
 go_wp2_with (first|(go_at_call 85;(with_reducible refine(k0 _ _ _).mono ?_);rintro e w' ⟨rfl,rfl⟩))
 ·(with_reducible refine(rest_any _ g _ ((HT _ _)).at_).mono ?_);rintro e w2 ⟨rfl,t2⟩
  go_wp2_with fail
  (with_reducible refine(settle_any _ g _ t2.at_ (small_rest _ (small_clean m hi))).mono ?_);rintro e w3 ⟨rfl,t3⟩
  go_wp2_with fail
  go_ret;exact⟨rfl,by subst_vars;rw[hear_frame];first|(rw[know_yes m d hd];exact(((HT _ _)).trans t2).trans t3)|(rw[know_no m d hd];exact(((HT _ _)).trans t2).trans t3)⟩
 ·go_ret
  exact⟨rfl,by subst_vars;rw[hear_mid];first|(rw[know_yes m d hd];exact(HT _ _))|(rw[know_no m d hd];exact(HT _ _))⟩
theorem heard_any (m:Aw.M) (g:Nat) (d a:Int) (tb fr:Bool) (w:World) (hm:At w g m) (hi:m.Inv):
 Calls Tryz.prog 47 #[.pointer (some ⟨g,0,none⟩),.agg #[.int .i64 d,.bool tb,.bool fr,.int .i64 a]] w fun e w'=>e= .returned (.int .i64 (m.heardE d a))∧Turned w w' g (m.heard d fr a):=by
 by_cases h2:m.state=2
 ·have e1:m.heardE d a=22:=by simp[Aw.M.heardE,h2]
  have e2:m.heard d fr a=m:=by simp[Aw.M.heard,e1]
  rw[e1,e2];exact heard_sleep m g d a tb fr w hm h2
 ·have e1:m.heardE d a=Aw.timesE d a:=by simp[Aw.M.heardE,h2]
  rw[e1];by_cases hE:Aw.timesE d a=0
  ·have e2:m.heard d fr a=m.hear d fr:=by simp[Aw.M.heard,e1,hE]
   rw[e2,hE]
   have hd':d<4096:=by
    rw[Aw.timesE_eq]at hE
    split at hE
    ·rename_i hh;have:=hh.1;unfold Aw.in12 at this;simp at this;omega
    ·cases hE
   by_cases h4:m.state=4
   ·by_cases hd:0<d
    ·exact heard_try2 m g d a tb fr w hm hi h2 hE h4 hd hd'
    ·exact heard_try4 m g d a tb fr w hm hi h2 hE h4 hd
   ·by_cases hd:0<d
    ·exact heard_try1 m g d a tb fr w hm hi h2 hE h4 hd hd'
    ·exact heard_try3 m g d a tb fr w hm hi h2 hE h4 hd
  ·have e2:m.heard d fr a=m:=by simp[Aw.M.heard,e1,hE]
   have e3:Aw.timesE d a=15:=by unfold Aw.timesE at hE ⊢;split<;>simp_all
   rw[e2,e3];exact heard_bad m g d a tb fr w hm h2 e3
end Go.Proofs.YtdbpkhnmhddmmaaGreatDoor.AwD
namespace Go.Proofs.YtdbpkhnmhddmmaaGreatDoor.Aw
theorem inv_start {u g b p:Int} (h:cfg u g b p=true):(start u g b p).Inv:=by
 unfold cfg at h;have h:=of_decide_eq_true h;unfold start;constructor<;>(try simp only)<;>omega
theorem rest_inv (m:M) (h:m.Inv):m.rest.Inv:=by
 obtain⟨h1,h2,h3,h4,h5,h6,h7,h8,h9,h10,h11,h12,h13,h14,h15,h16,h17,h18,h19,h20,h21⟩:=h;unfold M.rest M.reset M.setState
 split<;>constructor<;>(try simp only)<;>omega
structure M.Pre (m:M):Prop where
 u1:1≤m.unit
 u2:m.unit≤1048576
 g1:0≤m.guard
 g2:m.guard≤1048576
 b1:1≤m.burst
 b2:m.burst≤1048576
 p1:1≤m.pat
 p2:m.pat≤1048576
 n1:0≤m.now
 n2:m.now≤1099511627775
 s1:1≤m.state
 s2:m.state≤4
 e1:0≤m.begun
 e2:m.begun≤m.now
 w1:0≤m.wake
 w2:m.wake≤m.last
 l2:m.last≤2199023255552
 t1:0≤m.spent
 t2:m.spent≤m.now
 m1:0≤m.missed
 m2:m.missed<m.now∨(m.missed≤m.now∧m.now≤m.last+m.pat)
theorem expire_inv (m:M) (h:m.Pre):m.expire.Inv:=by
 obtain⟨h1,h2,h3,h4,h5,h6,h7,h8,h9,h10,h11,h12,h13,h14,h15,h16,h17,h18,h19,h20,h21⟩:=h;unfold M.expire
 split<;>constructor<;>(try simp only)<;>omega
theorem inv_of_pre (m:M) (h:m.Pre):m.Inv:=by
 obtain⟨h1,h2,h3,h4,h5,h6,h7,h8,h9,h10,h11,h12,h13,h14,h15,h16,h17,h18,h19,h20,h21⟩:=h;constructor<;>omega
theorem settle2_inv (m:M) (h:m.Pre):m.settle2.Inv:=by
 unfold M.settle2
 split
 ·split
  ·exact inv_of_pre m h
  ·refine expire_inv _ ?_
   obtain⟨h1,h2,h3,h4,h5,h6,h7,h8,h9,h10,h11,h12,h13,h14,h15,h16,h17,h18,h19,h20,h21⟩:=h;unfold M.setState;constructor<;>(try simp only)<;>omega
 ·split
  ·exact expire_inv m h
  ·exact inv_of_pre m h
theorem enter_inv (m:M) (h:m.Inv):m.enter.Inv:=by
 obtain⟨h1,h2,h3,h4,h5,h6,h7,h8,h9,h10,h11,h12,h13,h14,h15,h16,h17,h18,h19,h20,h21⟩:=h;unfold M.enter
 split<;>constructor<;>(try simp only)<;>omega
theorem know_inv (m:M) (h:m.Inv) (d:Int) (hd:0≤d) (hd':d<4096):(m.know d).Inv∧(0<d→(m.know d).now≤(m.know d).last):=by
 obtain⟨h1,h2,h3,h4,h5,h6,h7,h8,h9,h10,h11,h12,h13,h14,h15,h16,h17,h18,h19,h20,h21⟩:=h
 have hm0:d≤d*m.unit:=by
  have:=Int.mul_le_mul_of_nonneg_left h1 hd;omega
 have hm2:0<d→m.unit≤d*m.unit:=fun hp=>by
  have:=Int.mul_le_mul_of_nonneg_right (show(1:Int)≤d from hp) (show 0≤m.unit by omega);omega
 have hm1:d*m.unit≤4096*1048576:=Int.mul_le_mul (by omega) h2 (by omega) (by omega);unfold M.know
 split
 ·rename_i hp
  have hu:=hm2 hp;unfold wakeOf;refine⟨?_,fun _=>?_⟩
  ·constructor<;>(try simp only)<;>omega
  ·simp only;omega
 ·refine⟨?_,fun hp=>absurd hp ‹_›⟩
  constructor<;>(try simp only)<;>omega
theorem hear_inv (m:M) (h:m.Inv) (d:Int) (fr:Bool) (hd:0≤d) (hd':d<4096):(m.hear d fr).Inv:=by
 obtain⟨hk,hl⟩:=know_inv _ (enter_inv m h) d hd hd';unfold M.hear
 split
 ·have hr:=rest_inv _ hk
  by_cases hp:0<d
  ·have hle:=hl hp
   generalize m.enter.know d=x at*
   have hs:x.rest.settle.Inv:=by
    unfold M.settle;have e4: ¬x.rest.state=4:=by unfold M.rest M.reset M.setState;split<;>simp
    rw[if_neg (fun hh=>e4 hh.1)];refine settle2_inv _ ?_;obtain⟨h1,h2,h3,h4,h5,h6,h7,h8,h9,h10,h11,h12,h13,h14,h15,h16,h17,h18,h19,h20,h21⟩:=hk;unfold M.rest
    split
    ·unfold M.reset
     constructor<;>(try simp only)<;>omega
    ·unfold M.setState
     constructor<;>(try simp only)<;>omega
   exact hs
  ·have e0:(m.enter.know d).wake=0∧(m.enter.know d).last=0:=by unfold M.know;rw[if_neg hp];exact⟨rfl,rfl⟩
   have er:(m.enter.know d).rest=(m.enter.know d).reset:=by unfold M.rest;rw[if_pos e0]
   rw[er]at hr ⊢;have es: ∀x:M,x.reset.settle=x.reset:=fun x=>by simp[M.settle,M.settle2,M.reset]
   rw[es];exact hr
 ·exact hk
theorem heard_inv (m:M) (h:m.Inv) (d a:Int) (fr:Bool):(m.heard d fr a).Inv:=by
 unfold M.heard
 split
 ·rename_i he
  have:timesE d a=0:=by
   unfold M.heardE at he
   split at he
   ·cases he
   ·exact he
  rw[timesE_eq]at this
  split at this
  ·rename_i hh
   have h12:=of_decide_eq_true hh.1;exact hear_inv m h d fr h12.1 h12.2
  ·cases this
 ·exact h
theorem reset_inv (m:M) (h:m.Inv):m.reset.Inv:=by
 obtain⟨h1,h2,h3,h4,h5,h6,h7,h8,h9,h10,h11,h12,h13,h14,h15,h16,h17,h18,h19,h20,h21⟩:=h;unfold M.reset;constructor<;>(try simp only)<;>omega
end Go.Proofs.YtdbpkhnmhddmmaaGreatDoor.Aw
namespace Go.Proofs.YtdbpkhnmhddmmaaGreatDoor.AwE
open Go.RowKit Q Mem AwA AwB AwC AwD
def cfgE (u g b p:Int):Int:=if Aw.cfg u g b p then 0 else 23
theorem cfgE_no (u g b p:Int) (h: ¬(1≤u∧u≤1048576∧0≤g∧g≤1048576∧1≤b∧b≤1048576∧1≤p∧p≤1048576∧b≤p)):23=cfgE u g b p:=by
 unfold cfgE Aw.cfg;rw[decide_eq_false h];rfl
theorem cfgE_yes (u g b p:Int) (h:1≤u∧u≤1048576∧0≤g∧g≤1048576∧1≤b∧b≤1048576∧1≤p∧p≤1048576∧b≤p):0=cfgE u g b p:=by
 unfold cfgE Aw.cfg;rw[decide_eq_true h];rfl
set_option maxHeartbeats 1000000 in
theorem check_any (u g b p:Int) (w:World) (hu: -9223372036854775808≤u∧u≤9223372036854775807) (hg: -9223372036854775808≤g∧g≤9223372036854775807) (hb: -9223372036854775808≤b∧b≤9223372036854775807) (hp: -9223372036854775808≤p∧p≤9223372036854775807):
 Calls Tryz.prog 38 #[.agg #[.int .i64 u,.int .i64 g,.int .i64 b,.int .i64 p]] w fun e w'=>e= .returned (.int .i64 (cfgE u g b p))∧w.alloc (.cells #[.int .i64 u,.int .i64 g,.int .i64 b,.int .i64 p] 23)=w':=by
 have i0: ∀(x0 x1 x2 x3 x4:Value) w,(Instr.index 160 (.agg #[x0,x1,x2,x3,x4]) (.int .i64 0)).run Tryz.prog w= .ok x0 w:=fun _ _ _ _ _ _=>by kernel_rfl
 have i1: ∀(x0 x1 x2 x3 x4:Value) w,(Instr.index 160 (.agg #[x0,x1,x2,x3,x4]) (.int .i64 1)).run Tryz.prog w= .ok x1 w:=fun _ _ _ _ _ _=>by kernel_rfl
 have i2: ∀(x0 x1 x2 x3 x4:Value) w,(Instr.index 160 (.agg #[x0,x1,x2,x3,x4]) (.int .i64 2)).run Tryz.prog w= .ok x2 w:=fun _ _ _ _ _ _=>by kernel_rfl
 have i3: ∀(x0 x1 x2 x3 x4:Value) w,(Instr.index 160 (.agg #[x0,x1,x2,x3,x4]) (.int .i64 3)).run Tryz.prog w= .ok x3 w:=fun _ _ _ _ _ _=>by kernel_rfl
 have i4: ∀(x0 x1 x2 x3 x4:Value) w,(Instr.index 160 (.agg #[x0,x1,x2,x3,x4]) (.int .i64 4)).run Tryz.prog w= .ok x4 w:=fun _ _ _ _ _ _=>by kernel_rfl
 go_enter Tryz.func38,Tryz.ntmps38
 go_wp2
 go_rounds 6
 all_goals (go_ret;refine⟨ret_i64 ?_,rfl⟩;clear i0 i1 i2 i3 i4;go_light)
 all_goals (first|refine cfgE_no _ _ _ _ ?_|refine cfgE_yes _ _ _ _ ?_)
 all_goals ((try unfold wrap64 at*);omega)
def NewOk (u g b p:Int) (w:World) (e:Ending) (w':World):Prop:=
 ∃n,w.heap.size≤n∧e= .returned (.tuple #[.pointer (some ⟨n,0,none⟩),.int .i64 0])∧At w' n (Aw.start u g b p)∧Below w.heap.size w w'
set_option maxHeartbeats 400000 in
theorem new_ok (u g b p:Int) (w:World)
 (hu: -9223372036854775808≤u∧u≤9223372036854775807) (hg: -9223372036854775808≤g∧g≤9223372036854775807) (hb: -9223372036854775808≤b∧b≤9223372036854775807) (hp: -9223372036854775808≤p∧p≤9223372036854775807):
 Aw.cfg u g b p=true→Calls Tryz.prog 12 #[.agg #[.int .i64 u,.int .i64 g,.int .i64 b,.int .i64 p]] w (NewOk u g b p w):=by
 intro h;have k0:=check_any u g b p;have e0:cfgE u g b p=0:=by unfold cfgE;rw[h];rfl
 rw[e0]at k0;clear h e0
 go_enter Tryz.func12,Tryz.ntmps12
 go_wp2_with (go_at_call 38;(with_reducible refine(k0 _ hu hg hb hp).mono ?_);rintro e w' ⟨rfl,rfl⟩)
 go_ret2
 exact⟨w.heap.size+1+1,by omega,rfl,Blk.newAt _ _ _ (by simp),(((Below.refl _ _).alloc (Nat.le_refl _) _).alloc (by simp) _).alloc (by simp;omega) _⟩
end Go.Proofs.YtdbpkhnmhddmmaaGreatDoor.AwE
