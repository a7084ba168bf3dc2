/- The plain form of layer 21 (awake): what each method of the machine, and of the document's machine, computes, as functions on integers. No Go in sight. -/
namespace Go.Proofs.Ytknjnpagbpjlkaa.Aw

/-- the machine -/
structure M where
  unit : Int
  guard : Int
  burst : Int
  pat : Int
  now : Int
  state : Int
  begun : Int
  wake : Int
  last : Int
  spent : Int
  missed : Int

/-- may a configuration be -/
def cfg (unit guard burst pat : Int) : Bool :=
  decide (1 ≤ unit ∧ unit ≤ 1048576 ∧ 0 ≤ guard ∧ guard ≤ 1048576 ∧ 1 ≤ burst ∧ burst ≤ 1048576 ∧ 1 ≤ pat ∧ pat ≤ 1048576 ∧ burst ≤ pat)

def start (unit guard burst pat : Int) : M := ⟨unit, guard, burst, pat, 0, 1, 0, 0, 0, 0, 0⟩

def M.reset (m : M) : M := ⟨m.unit, m.guard, m.burst, m.pat, m.now, 1, m.begun, 0, 0, m.spent, m.missed⟩
def M.setState (m : M) (s : Int) : M := ⟨m.unit, m.guard, m.burst, m.pat, m.now, s, m.begun, m.wake, m.last, m.spent, m.missed⟩
def M.rest (m : M) : M := if m.wake = 0 ∧ m.last = 0 then m.reset else m.setState 2
def M.expire (m : M) : M := if m.last + m.pat < m.now then ⟨m.unit, m.guard, m.burst, m.pat, m.now, 1, m.begun, 0, 0, m.spent, m.missed + 1⟩ else m
def M.settle2 (m : M) : M :=
  if m.state = 2 then (if m.now < m.wake then m else (m.setState 3).expire) else if m.state = 3 then m.expire else m
def M.settle (m : M) : M := if m.state = 4 ∧ m.burst ≤ m.now - m.begun then m.rest.settle2 else m.settle2
def M.tick (m : M) : M := ⟨m.unit, m.guard, m.burst, m.pat, m.now + 1, m.state, m.begun, m.wake, m.last, (if m.state = 2 then m.spent else m.spent + 1), m.missed⟩
def M.next (m : M) : M := if 1099511627775 ≤ m.now then m else m.tick.settle

/-- may times be -/
def timesOk (delta at_ : Int) : Bool := decide (0 ≤ delta ∧ delta < 4096 ∧ 0 ≤ at_ ∧ at_ < 262144)

def timesE (delta at_ : Int) : Int := if timesOk delta at_ then 0 else 15
def in12 (x : Int) : Bool := decide (0 ≤ x ∧ x < 4096)
def in18 (x : Int) : Bool := decide (0 ≤ x ∧ x < 262144)
def slotB (n u : Int) : Bool := decide (0 ≤ n ∧ n < 1099511627776 ∧ 1 ≤ u ∧ u ≤ 1048576)
def firstOf (n d u : Int) : Int := max n (n + d * u - u + min d 1)

theorem timesE_eq (d a : Int) : timesE d a = if in12 d = true ∧ in18 a = true then 0 else 15 := by
  unfold timesE timesOk in12 in18
  simp [and_assoc]

def M.enter (m : M) : M := if m.state = 4 then m else ⟨m.unit, m.guard, m.burst, m.pat, m.now, 4, m.now, m.wake, m.last, m.spent, m.missed⟩
def wakeOf (now delta unit guard : Int) : Int := max now (max now (now + delta * unit - unit + 1) - guard)
def M.know (m : M) (delta : Int) : M :=
  if 0 < delta then ⟨m.unit, m.guard, m.burst, m.pat, m.now, m.state, m.begun, wakeOf m.now delta m.unit m.guard, m.now + delta * m.unit, m.spent, m.missed⟩
  else ⟨m.unit, m.guard, m.burst, m.pat, m.now, m.state, m.begun, 0, 0, m.spent, m.missed⟩
def M.hear (m : M) (delta : Int) (frame : Bool) : M := if frame then (m.enter.know delta).rest.settle else m.enter.know delta
def M.heardE (m : M) (delta at_ : Int) : Int := if m.state = 2 then 22 else timesE delta at_
def M.heard (m : M) (delta : Int) (frame : Bool) (at_ : Int) : M := if m.heardE delta at_ = 0 then m.hear delta frame else m

def M.steps (m : M) : Nat → M
  | 0 => m
  | n + 1 => (m.steps n).next

/-- the bounds that keep every sum within its kind -/
structure M.Inv (m : M) : Prop where
  u1 : 1 ≤ m.unit
  u2 : m.unit ≤ 1048576
  g1 : 0 ≤ m.guard
  g2 : m.guard ≤ 1048576
  b1 : 1 ≤ m.burst
  b2 : m.burst ≤ 1048576
  p1 : 1 ≤ m.pat
  p2 : m.pat ≤ 1048576
  n1 : 0 ≤ m.now
  n2 : m.now ≤ 1099511627775
  s1 : 1 ≤ m.state
  s2 : m.state ≤ 4
  e1 : 0 ≤ m.begun
  e2 : m.begun ≤ m.now
  w1 : 0 ≤ m.wake
  w2 : m.wake ≤ m.last
  l2 : m.last ≤ 2199023255552
  t1 : 0 ≤ m.spent
  t2 : m.spent ≤ m.now
  m1 : 0 ≤ m.missed
  m2 : m.missed ≤ m.now

end Go.Proofs.Ytknjnpagbpjlkaa.Aw
