/- table: Put. -/
import Derived.Test.YtlocgilgdnhnlaaGreatDoorTbO
import Derived.Test.YtlocgilgdnhnlaaGreatDoorPkS
namespace Go.Proofs.YtlocgilgdnhnlaaGreatDoor.TbP
open Go Go.RowKit Go.Proofs.YtlocgilgdnhnlaaGreatDoor.Q Go.Proofs.YtlocgilgdnhnlaaGreatDoor.Mem Go.Proofs.YtlocgilgdnhnlaaGreatDoor.Rg Go.Proofs.YtlocgilgdnhnlaaGreatDoor.Ap Go.Proofs.YtlocgilgdnhnlaaGreatDoor.ApG Go.Proofs.YtlocgilgdnhnlaaGreatDoor.St Go.Proofs.YtlocgilgdnhnlaaGreatDoor.BiW Go.Proofs.YtlocgilgdnhnlaaGreatDoor.Tab Go.Proofs.YtlocgilgdnhnlaaGreatDoor.TlS Go.Proofs.YtlocgilgdnhnlaaGreatDoor.Fl Go.Proofs.YtlocgilgdnhnlaaGreatDoor.TbM Go.Proofs.YtlocgilgdnhnlaaGreatDoor.TbN Go.Proofs.YtlocgilgdnhnlaaGreatDoor.TbO Go.Proofs.YtlocgilgdnhnlaaGreatDoor.SeEq

set_option maxRecDepth 100000
/-- a byte of a string -/
def sb (s : ByteArray) (i : Nat) : UInt8 := s.data[i]?.getD 0
/-- k bytes from a place on are known -/
def laid (S : Tb) (p : Nat) (s : ByteArray) (k : Nat) : Tb := { S with b := fun i => if p ≤ i ∧ i < p + k then sb s (i - p) else S.b i, is := fun i => if p ≤ i ∧ i < p + k then true else S.is i }
theorem laid_zero (S : Tb) (p : Nat) (s : ByteArray) : laid S p s 0 = S := by
  unfold laid
  have h : ∀ i, ¬ (p ≤ i ∧ i < p + 0) := fun i => by omega
  simp only [h, if_false]
theorem laid_step (S : Tb) (p : Nat) (s : ByteArray) (k : Nat) : (laid S p s k).set (p + k) (sb s k) = laid S p s (k + 1) := by
  unfold laid Tb.set
  dsimp only
  congr 1
  · funext i
    by_cases h1 : i = p + k
    · subst h1
      rw [if_pos rfl, if_pos (by omega), show p + k - p = k by omega]
    · rw [if_neg h1]
      by_cases h2 : p ≤ i ∧ i < p + k
      · rw [if_pos h2, if_pos (by omega)]
      · rw [if_neg h2, if_neg (by omega)]
  · funext i
    by_cases h1 : i = p + k
    · subst h1
      rw [if_pos rfl, if_pos (by omega)]
    · rw [if_neg h1]
      by_cases h2 : p ≤ i ∧ i < p + k
      · rw [if_pos h2, if_pos (by omega)]
      · rw [if_neg h2, if_neg (by omega)]
def putE (R : Nat) (at_ : Int) (s : ByteArray) : Int := if at_ < 0 ∨ (191 * R : Nat) < at_ ∨ ((191 * R : Nat) : Int) - at_ < s.size then 15 else 0
/-- where the starts below p end -/
def below (L : List Nat) (p : Nat) : Nat := L.countP fun z => decide (z < p)
def putS (S : Tb) (at_ : Int) (s : ByteArray) : Tb :=
  if putE S.R at_ s ≠ 0 ∨ s.size = 0 then S
  else { laid S at_.toNat s s.size with st := if at_.toNat ∈ S.st then S.st else ins S.st (below S.st at_.toNat) at_.toNat }
theorem put_R (S : Tb) (at_ : Int) (s : ByteArray) : (putS S at_ s).R = S.R := by unfold putS; split <;> rfl
/-- what is asked of a table -/
structure Ok (S : Tb) : Prop where
  R : S.R ≤ 1024
  R0 : 0 < S.R
  st : S.st.length ≤ 100000
  up : S.st.Pairwise (· < ·)
  lt : ∀ z ∈ S.st, z < 191 * S.R
def far (w : World) (v v' : Value) : Prop := v'.ownBlock = v.ownBlock ∨ ∃ j, v'.ownBlock = some j ∧ w.heap.size ≤ j
set_option maxHeartbeats 1600000 in
theorem put_any (w : World) (B gt gr : Nat) (v : Value) (S : Tb) (at_ : Int) (s : ByteArray) (h : TbIn w B gt gr v S) (hok : Ok S) (hs : s.size ≤ 1099511627776) :
    Calls Tryz.prog 18 #[.pointer (some ⟨gt, 0, none⟩), .int .i64 at_, .string s] w fun e w' => ∃ v', e = .returned (.int .i64 (putE S.R at_ s)) ∧ TbIn w' B gt gr v' (putS S at_ s) ∧ far w v v' ∧ Kept (foot gt gr v) w w' := by
  have kd := data_any w B gt gr v S h hok.R
  have h01 := hok.R
  by_cases hn : at_ < 0
  · have t0 : decide (at_ < 0) = true := decide_eq_true hn
    have HE := Lib.hid (show putE S.R at_ s = 15 from if_pos (Or.inl hn))
    have HS := Lib.hid (show putS S at_ s = S from if_pos (Or.inl (by rw [HE.out]; decide)))
    clear hn kd hok
    go_enter Tryz.func18, Tryz.ntmps18
    go_wp2_with fail
    go_ret
    exact ⟨v, by rw [HE.out]; rfl, by rw [HS.out]; exact h, Or.inl rfl, Kept.refl _ _⟩
  · have t0 : decide (at_ < 0) = false := decide_eq_false hn
    obtain ⟨p, rfl⟩ := Int.eq_ofNat_of_zero_le (Int.not_lt.1 hn)
    clear hn
    by_cases h1 : 191 * S.R < p
    · have t1 : decide (((191 * S.R : Nat) : Int) < (p : Int)) = true := decide_eq_true (by omega)
      have t2 : decide (191 * S.R < p) = true := decide_eq_true h1
      have HE := Lib.hid (show putE S.R p s = 15 from if_pos (Or.inr (Or.inl (by omega))))
      have HS := Lib.hid (show putS S p s = S from if_pos (Or.inl (by rw [HE.out]; decide)))
      obtain ⟨D, hD⟩ : ∃ D, 191 * S.R = D := ⟨_, rfl⟩
      rw [hD] at kd t1 t2
      clear h1 hok hD
      go_enter Tryz.func18, Tryz.ntmps18
      go_wp2_with fail
      (with_reducible refine (kd).mono ?_); rintro e1 W1 ⟨rfl, rfl⟩
      go_wp2_with fail
      go_ret
      exact ⟨v, by rw [HE.out]; rfl, by rw [HS.out]; exact h, Or.inl rfl, Kept.refl _ _⟩
    · have t1 : decide (((191 * S.R : Nat) : Int) < (p : Int)) = false := decide_eq_false (by omega)
      have t2 : decide (191 * S.R < p) = false := decide_eq_false h1
      by_cases h2 : 191 * S.R - p < s.size
      · have t3 : decide (((191 * S.R : Nat) : Int) - (p : Int) < (s.size : Int)) = true := decide_eq_true (by omega)
        have HE := Lib.hid (show putE S.R p s = 15 from if_pos (Or.inr (Or.inr (by omega))))
        have HS := Lib.hid (show putS S p s = S from if_pos (Or.inl (by rw [HE.out]; decide)))
        have hDb : ((191 * S.R : Nat) : Int) ≤ 200000 := by omega
        have hpb : (p : Int) ≤ ((191 * S.R : Nat) : Int) := by omega
        obtain ⟨D, hD⟩ : ∃ D, 191 * S.R = D := ⟨_, rfl⟩
        rw [hD] at kd t1 t2 t3 hDb hpb
        have kp : (0 : Int) ≤ (p : Int) := Int.natCast_nonneg _
        clear h1 h2 hok hD
        go_enter Tryz.func18, Tryz.ntmps18
        go_wp2_with fail
        (with_reducible refine (kd).mono ?_); rintro e1 W1 ⟨rfl, rfl⟩
        go_wp2_with fail
        (with_reducible refine (kd).mono ?_); rintro e1 W1 ⟨rfl, rfl⟩
        go_wp2_with fail
        go_ret
        exact ⟨v, by rw [HE.out]; rfl, by rw [HS.out]; exact h, Or.inl rfl, Kept.refl _ _⟩
      · have t3 : decide (((191 * S.R : Nat) : Int) - (p : Int) < (s.size : Int)) = false := decide_eq_false (by omega)
        have hE0 : putE S.R p s = 0 := if_neg (by omega)
        have HE := Lib.hid hE0
        have hDb : ((191 * S.R : Nat) : Int) ≤ 200000 := by omega
        have hpb : (p : Int) ≤ ((191 * S.R : Nat) : Int) := by omega
        have hps : p + s.size ≤ 191 * S.R := by omega
        have kp : (0 : Int) ≤ (p : Int) := Int.natCast_nonneg _
        by_cases hz : s.size = 0
        · have t4 : s.toList.isEmpty = true := by rw [isEmpty_iff]; simpa using hz
          have HS := Lib.hid (show putS S p s = S from if_pos (Or.inr hz))
          obtain ⟨D, hD⟩ : ∃ D, 191 * S.R = D := ⟨_, rfl⟩
          rw [hD] at kd t1 t2 t3 hDb hpb
          clear h1 h2 hok hD hz hps hE0
          go_enter Tryz.func18, Tryz.ntmps18
          go_wp2_with fail
          (with_reducible refine (kd).mono ?_); rintro e1 W1 ⟨rfl, rfl⟩
          go_wp2_with fail
          (with_reducible refine (kd).mono ?_); rintro e1 W1 ⟨rfl, rfl⟩
          go_wp2_with fail
          go_ret
          exact ⟨v, by rw [HE.out]; rfl, by rw [HS.out]; exact h, Or.inl rfl, Kept.refl _ _⟩
        · have t4 : s.toList.isEmpty = false := by rw [isEmpty_iff]; simpa using hz
          have HS := Lib.hid (show putS S p s = { laid S p s s.size with st := if p ∈ S.st then S.st else ins S.st (below S.st p) p } from by
            unfold putS
            rw [if_neg (by rw [hE0]; simp [hz])]
            rfl)
          obtain ⟨n, hn⟩ : ∃ n, s.size = n := ⟨_, rfl⟩
          obtain ⟨D, hD⟩ : ∃ D, 191 * S.R = D := ⟨_, rfl⟩
          have HN := Lib.hid (And.intro hn (And.intro hD hok))
          rw [hD] at kd t1 t2 t3 hDb hpb hps
          rw [hn] at t3 hps
          clear h1 h2 hok hD hz hE0
          have HH := Lib.hid h
          go_enter Tryz.func18, Tryz.ntmps18
          go_wp2_with fail
          (with_reducible refine (kd).mono ?_); rintro e1 W1 ⟨rfl, rfl⟩
          go_wp2_with fail
          (with_reducible refine (kd).mono ?_); rintro e1 W1 ⟨rfl, rfl⟩
          go_wp2_with fail
          go_loopw [38] (fun i wr => ∃ k : Nat, k ≤ n ∧ i = .int .i64 k ∧ Hid (TbIn wr B gt gr v (laid S p s k)) ∧ Hid (Kept (foot gt gr v) w wr)) (fun i _ => n - (intOf i).toNat)
          case atStart => exact ⟨0, by omega, rfl, Lib.hid (by rw [laid_zero]; exact h), Lib.hid (Kept.refl _ _)⟩
          case round =>
            obtain ⟨k, hk, rfl, HT, HK⟩ := hrel
            by_cases hkn : k < n
            · have u0 : decide (k < n) = true := decide_eq_true hkn
              have hpk : p + k < 255 * S.R := by have := HN.out.2.1; omega
              have kpl := place_any wr B gt gr (p + k) v (laid S p s k) HT.out h01 hpk
              rw [show (laid S p s k).R = S.R from rfl] at kpl
              obtain ⟨d1, d2, d3⟩ := div_lt hpk
              have hi : ∀ V, (Instr.index 9 (.string s) (.int .i64 (k : Int))).run Tryz.prog V = .ok (.int .u8 ((sb s k).toNat : Int)) V := fun V => idx_at s k (by rw [HN.out.1]; exact hkn) V
              obtain ⟨r, hr⟩ : ∃ r, (p + k) % S.R = r := ⟨_, rfl⟩
              obtain ⟨c, hc⟩ : ∃ c, (p + k) / S.R = c := ⟨_, rfl⟩
              rw [hr] at kpl d1 d3
              rw [hc] at kpl d2 d3
              have HD := Lib.hid d3
              rw [show ((p + k : Nat) : Int) = (p : Int) + (k : Int) by omega] at kpl
              have q1 : (0 : Int) ≤ (k : Int) := Int.natCast_nonneg _
              have q2 : (p : Int) + (k : Int) ≤ 300000 := by omega
              clear hr hc d3 hpk
              go_wp2_with fail
              (with_reducible refine (kpl).mono ?_); rintro e2 W2 ⟨rfl, hb2⟩
              have HT2 := Lib.hid (HT.out.below hb2)
              have HK2 := Lib.hid (HK.out.then (by have := HK.out.size; exact hb2.mono this))
              have kst := set_any W2 B gt gr r c v (laid S p s k) (sb s k) HT2.out d2 d1
              rw [show (laid S p s k).R = S.R from rfl, HD.out, laid_step] at kst
              clear kpl HT HK hb2
              go_wp2_with fail
              (with_reducible refine (kst).mono ?_); rintro e3 W3 ⟨rfl, ht3, hk3⟩
              have HK3 := Lib.hid (HK2.out.trans hk3 (fun i _ e => Or.inr (Or.inl e)))
              have HT3 := Lib.hid ht3
              clear kst ht3 hk3 HT2 HK2
              go_wp2_with fail
              go_roundw
              case rel => exact ⟨k + 1, by omega, by go_num, HT3, HK3⟩
              case measure => simp [intOf]; omega
            · obtain rfl : k = n := by omega
              have u0 : decide (k < k) = false := by simp
              have ksr := search_any B v S.st.length S.st (p : Int) wr rfl (by have := HN.out.2.2.st; omega) HT.out.st (HN.out.2.2.up.imp (fun h => Nat.le_of_lt h))
              rw [show (fun z : Nat => decide ((z : Int) < (p : Int))) = (fun z : Nat => decide (z < p)) from by funext z; simp, show S.st.countP (fun z : Nat => decide (z < p)) = below S.st p from rfl,
                show decide (∃ z ∈ S.st, (z : Int) = (p : Int)) = decide (p ∈ S.st) from by
                  congr 1
                  apply propext
                  constructor
                  · rintro ⟨z, hz, e⟩
                    rw [← show z = p by omega]; exact hz
                  · intro h; exact ⟨p, h, rfl⟩] at ksr
              have hbl : below S.st p ≤ S.st.length := List.countP_le_length
              obtain ⟨i, hi⟩ : ∃ i, below S.st p = i := ⟨_, rfl⟩
              have HI := Lib.hid hi
              rw [hi] at ksr hbl
              clear hi
              have c1 := Blk.cell HT.out.box 1 (v := v) rfl
              have c2 := fun q => Blk.cell (Blk.drewN HT.out.box q) 1 (v := v) rfl
              by_cases hin : p ∈ S.st
              · rw [decide_eq_true hin] at ksr
                have HS2 := Lib.hid (show putS S p s = laid S p s k from by rw [HS.out, if_pos hin, HN.out.1]; rfl)
                clear hin
                go_wp2_with fail
                (with_reducible refine (ksr).mono ?_); rintro e2 W2 ⟨rfl, q, rfl⟩
                have hbq := below_drewN (Below.refl wr.heap.size wr) q
                have HT2 := Lib.hid (HT.out.below hbq)
                have HK2 := Lib.hid (HK.out.then (hbq.mono HK.out.size))
                clear ksr c1 c2
                go_wp2_with fail
                go_ret
                exact ⟨v, by rw [HE.out]; rfl, by rw [HS2.out]; exact HT2.out, Or.inl rfl, HK2.out⟩
              · rw [decide_eq_false hin] at ksr
                have HS2 := Lib.hid (show putS S p s = { laid S p s k with st := ins S.st i p } from by rw [HS.out, if_neg hin, HN.out.1, HI.out])
                clear hin
                go_wp2_with fail
                (with_reducible refine (ksr).mono ?_); rintro e2 W2 ⟨rfl, q, rfl⟩
                have hbq := below_drewN (Below.refl wr.heap.size wr) q
                have hbV := hbq.alloc (Nat.le_refl _) (.cells #[.int .i64 (p : Int)] 3)
                have HTV := Lib.hid (HT.out.below hbV)
                have kin := insert_any B v S.st.length i p wr.heap.size S.st _ rfl (by have := HN.out.2.2.st; omega) hbl HTV.out.st (Nat.le_trans (Nat.le_trans HT.out.bt (Nat.le_of_lt HT.out.box.lt)) hbV.size) (fun e => by have := (HT.out.st.lt _ e).2; omega) (Blk.newAt (wr.drewN q) 3 #[.int .i64 (p : Int)] (show wr.heap.size = (wr.drewN q).heap.size from rfl))
                have HKV := Lib.hid (HK.out.then (hbV.mono HK.out.size))
                have HSZ := Lib.hid (show v.ownBlock ≠ some wr.heap.size ∧ gt < wr.heap.size ∧ w.heap.size ≤ wr.heap.size from ⟨fun e => by have := (HT.out.st.lt _ e).2; omega, HT.out.box.lt, HK.out.size⟩)
                clear ksr c1 hbq hbV
                go_wp2_with fail
                (with_reducible refine (kin).mono ?_); rintro e4 W4 ⟨v', rfl, hown', hg', hat'⟩
                have hx4 : Blk W4 gt 60 #[.slice (some ⟨gr, 0, none⟩) S.R S.R, v] := (hg'.block gt HTV.out.box.lt (fun e => HTV.out.nt e.symm)).trans HTV.out.box
                have hr4 : Fm W4 gr _ _ _ := HTV.out.rows.same (hg'.block gr HTV.out.rows.lt (fun e => HTV.out.nr e.symm))
                have hnt : v'.ownBlock ≠ some gt := fun e => by
                  rcases hat' with h | h
                  · exact HTV.out.nt (h ▸ e)
                  · rw [h] at e; injection e with e; have := HTV.out.box.lt; omega
                have hnr : v'.ownBlock ≠ some gr := fun e => by
                  rcases hat' with h | h
                  · exact HTV.out.nr (h ▸ e)
                  · rw [h] at e; injection e with e; have := HTV.out.rows.lt; omega
                have hT9 : TbIn (W4.setCell ⟨gt, 1, none⟩ v') B gt gr v' { laid S p s k with st := ins S.st i p } :=
                  ⟨Blk.set_ hx4 1 v', hr4.far (show gr ≠ gt from fun e => HTV.out.ne e.symm) v', by
                    have hl : (ins S.st i p).length = S.st.length + 1 := ins_len _ _ _ hbl
                    show (W4.setCell ⟨gt, 1, none⟩ v').ownsRow B 3 1 v' (ins S.st i p).length _
                    rw [hl]
                    exact hown'.kept (only_set (only_refl W4 (some gt)) 1 v') (by
                      cases hv : v'.ownBlock with
                      | none => exact Or.inl rfl
                      | some j => exact Or.inr (fun e => hnt (hv.trans e))), HTV.out.ne, hnt, hnr, HTV.out.bt, HTV.out.br⟩
                have hK9 : Kept (foot gt gr v) w (W4.setCell ⟨gt, 1, none⟩ v') :=
                  (HKV.out.trans (kept_grown (F := foot gt gr v) hg' (fun r e => Or.inr (Or.inr e))) (fun _ _ h => h)).trans (kept_set (F := foot gt gr v) (p := ⟨gt, 1, none⟩) (u := v') (Or.inl rfl)) (fun _ _ h => h)
                have hfar : far w v v' := by
                  rcases hat' with h | h
                  · exact Or.inl h
                  · exact Or.inr ⟨_, h, by have := HSZ.out.2.2; simp; omega⟩
                have HT9 := Lib.hid hT9
                have HK9 := Lib.hid hK9
                have c3 := Blk.cell hx4 1 (v := v) rfl
                have c4 := Blk.frozen hx4 1
                obtain ⟨av, cv, hvf⟩ := own_form hown'
                clear kin hown' hg' hat' hx4 hr4 hnt hnr hT9 hK9 c2
                subst hvf
                go_wp2_with fail
                go_ret
                exact ⟨_, by rw [HE.out]; rfl, by rw [HS2.out]; exact HT9.out, hfar, HK9.out⟩
end Go.Proofs.YtlocgilgdnhnlaaGreatDoor.TbP
