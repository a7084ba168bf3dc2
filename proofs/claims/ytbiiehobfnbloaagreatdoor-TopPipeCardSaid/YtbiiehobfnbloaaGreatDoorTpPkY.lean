import Derived.Test.YtbiiehobfnbloaaGreatDoorTpPkH
namespace Go.Proofs.YtbiiehobfnbloaaGreatDoor.PkY
open Go Go.RowKit Q Mem Rg Ap St BlS PaR PaK PkP PkE
structure PkOk (p : Pkt) : Prop where
 pid : 0 ≤ p.pid ∧ p.pid < 8192
 count : 0 ≤ p.count ∧ p.count < 16
 body : p.body.size = 184 ∨ p.body.size = 183
def pkBy (p : Pkt) : List UInt8 := pkB p.pid.toNat p.start p.count.toNat (bl p.body)
theorem pkBy_len {p : Pkt} (h : PkOk p) : (pkBy p).length = 188 := pkB_len (by rw [bl_len]; exact h.body)
def nilPk : Pkt := ⟨8191, false, 0, ff 184⟩
theorem nil_ok : PkOk nilPk := ⟨by decide, by decide, Or.inl (by show (str _).size = 184; rw [str_size, List.length_replicate])⟩
set_option maxRecDepth 100000
theorem enc_pk (p : Pkt) (w : World) (hW : Wid 0 w) (h : PkOk p) :
   Calls Tryz.prog 16 #[.agg #[.int .i64 p.pid, .bool p.start, .int .i64 p.count, .bool false, .string p.body]] w fun e w' => e = .returned (.tuple #[.string (str (pkBy p)), .int .i64 0]) ∧ Below w.heap.size w w' := by
 obtain ⟨h1, h2, h3⟩ := h
 have k := encode_any p.pid.toNat p.count.toNat p.start p.body w hW (by omega) (by omega) h3
 rw [show ((p.pid.toNat : Nat) : Int) = p.pid by omega, show ((p.count.toNat : Nat) : Int) = p.count by omega] at k
 exact k
theorem empty_any (w : World) (hW : Wid 0 w) : Calls Tryz.prog 17 #[] w fun e w' => e = .returned (.string (str (pkBy nilPk))) ∧ Below w.heap.size w w' := by
 have k1 : ∀ V, Calls Tryz.prog 71 #[.string ⟨#[255]⟩, .int .i64 184] V fun e w' => e = .returned (.string (ff 184)) ∧ Below V.heap.size V w' := fun V => ff_any 184 V (by decide)
 have HW := Lib.hid hW
 have HE := Lib.hid (fun V h => enc_pk nilPk V h nil_ok)
 obtain ⟨X, hX⟩ : ∃ X, str (pkBy nilPk) = X := ⟨_, rfl⟩
 rw [hX] at HE ⊢
 unfold nilPk at HE
 dsimp only at HE
 obtain ⟨F, hF⟩ : ∃ F, ff 184 = F := ⟨_, rfl⟩
 rw [hF] at k1 HE
 clear hX hF hW
 go_enter Tryz.func17, Tryz.ntmps17
 go_wp2_with fail
 (with_reducible refine (k1 _).mono ?_); rintro e1 W1 ⟨rfl, hb1⟩
 go_wp2_with fail
 (with_reducible refine (HE.out _ (HW.out.be hb1)).mono ?_); rintro e1 W2 ⟨rfl, hb2⟩
 go_wp2_with fail
 go_ret
 exact ⟨rfl, hb1.trans (hb2.mono hb1.size)⟩
end Go.Proofs.YtbiiehobfnbloaaGreatDoor.PkY
