import Derived.WalkKit
namespace Go.Proofs.YtbiiehobfnbloaaGreatDoor.GfP
def dbl (x : UInt8) : UInt8 := if 128 ≤ x.toNat then (x + x) ^^^ 29 else x + x
def ex : Nat → UInt8
  | 0 => 1
  | n + 1 => dbl (ex n)
def logI : Nat → UInt8 → Nat
  | 0, _ => 0
  | i + 1, a => if a = ex i then i else logI i a
def lg (a : UInt8) : Nat := logI 255 a
def gm (a b : UInt8) : UInt8 := if a = 0 ∨ b = 0 then 0 else ex (lg a + lg b)
set_option maxRecDepth 100000
@[simp] theorem gm_zero (a : UInt8) : gm a 0 = 0 := if_pos (Or.inr rfl)
@[simp] theorem zero_gm (a : UInt8) : gm 0 a = 0 := if_pos (Or.inl rfl)
theorem x0 (a : UInt8) : a ^^^ 0 = a := UInt8.xor_zero
end Go.Proofs.YtbiiehobfnbloaaGreatDoor.GfP
namespace Go.Proofs.YtbiiehobfnbloaaGreatDoor.PoP
open GfP
def up (f : Nat → UInt8) (n : Nat) : UInt8 := if n = 0 then 0 else f (n - 1)
def one (n : Nat) : UInt8 := if n = 0 then 1 else 0
def pr : List UInt8 → UInt8 → UInt8
  | [], _ => 1
  | X :: t, x => gm (1 ^^^ gm X x) (pr t x)
section decode
variable {L : List Nat} {X : Nat → UInt8} {e : Nat → UInt8}
end decode
end Go.Proofs.YtbiiehobfnbloaaGreatDoor.PoP
namespace Go.Proofs.YtbiiehobfnbloaaGreatDoor.RsP
open GfP PoP
def hr (l : List UInt8) (x : UInt8) : UInt8 := l.foldl (fun o c => gm o x ^^^ c) 0
def mulr (r : UInt8) (f : Nat → UInt8) (n : Nat) : UInt8 := gm r (f n) ^^^ up f n
def gen : Nat → Nat → UInt8
  | 0 => one
  | k + 1 => mulr (ex k) (gen k)
def stepR (R : Nat → UInt8) (d : UInt8) (k : Nat) : UInt8 := (if k < 63 then R (k + 1) else 0) ^^^ gm (d ^^^ R 0) (gen 64 (63 - k))
def encR (data : List UInt8) : Nat → UInt8 := data.foldl stepR (fun _ => 0)
def enc (data : List UInt8) : List UInt8 := (List.range 64).map (encR data)
end Go.Proofs.YtbiiehobfnbloaaGreatDoor.RsP
