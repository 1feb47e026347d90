/- A disk, as plain data: what the document says of it. No program in sight. -/
import Derived.Test.YtekpbpcfeopilaaDoorCore
namespace Go.Proofs.YtekpbpcfeopilaaDoor.Dm
open Go

/-- A region: its lasting sectors, and the writes that wait. -/
structure MReg where
  lasts : List ByteArray
  queue : List (Int × ByteArray)
/-- A disk. -/
structure MDisk where
  regs : List MReg
  off : Bool
  treg : Int
  tleft : Int
  keep : List Int

def noneS : ByteArray := ⟨Array.replicate 64 0⟩

/-- The last write to a sector, or what there was. -/
def lookQ : List (Int × ByteArray) → Int → ByteArray → ByteArray
  | [], _, d => d
  | p :: r, k, d => lookQ r k (if p.1 = k then p.2 else d)
/-- The writes that are kept become lasting. -/
def putQ (kept : Nat → Bool) : Nat → List (Int × ByteArray) → List ByteArray → List ByteArray
  | _, [], l => l
  | i, p :: r, l => putQ kept (i + 1) r (if kept i = true then l.set p.1.toNat p.2 else l)
def lastR (kept : Nat → Bool) (r : MReg) : MReg := ⟨putQ kept 0 r.queue r.lasts, []⟩
/-- Is the write number i of region n kept? -/
def bitK (keep : List Int) (n i : Nat) : Bool := decide (n < keep.length) && decide (keep.getD n 0 / 2 ^ (i % 64) % 2 = 1)
def loseRs (keep : List Int) (l : List MReg) : List MReg := l.mapIdx fun n r => lastR (bitK keep n) r

/-- What holds of every disk that was made. -/
structure WfR (N : Nat) (r : MReg) : Prop where
  few : r.lasts.length ≤ 4096
  inQ : ∀ p ∈ r.queue, 0 ≤ p.1 ∧ p.1 < r.lasts.length
  l64 : ∀ s ∈ r.lasts, s.size = 64
  q64 : ∀ p ∈ r.queue, p.2.size = 64
  long : r.queue.length ≤ N
structure Wf (N : Nat) (m : MDisk) : Prop where
  few : m.regs.length ≤ 8
  regs : ∀ r ∈ m.regs, WfR N r
  left : 0 ≤ m.tleft ∧ m.tleft ≤ 9223372036854775807
  keep : ∀ x ∈ m.keep, 0 ≤ x ∧ x ≤ 18446744073709551615

end Go.Proofs.YtekpbpcfeopilaaDoor.Dm
