/-
  No cell of these rows narrows 'for every input' (looked for: loops, veiled, ifaces, maps, wideKeys, modest, calm, conditions, laid).
  DERIVED. THE GIVEN ROWS OF THIS SEAT. 9 by the template 'for every input the law returns true; each argument reads behind the call as it read before'; 0 by the template 'total and deterministic' (their statements: YtekpbpcfeopilaaTotals.lean).
  GIVEN WITH THE SEED: the statements are not yours to turn. If you find one false, say at which input.
  Laid BY PROGRAM, IN A SANDBOX (cutbox-rows.mjs): the forced cells as the released guide's own fill.sh prints them over the translation 32f57ee5c38acb9f… (all of the seat's roots in one cut). By AI agents, Wed Nov 11 2026. No macro, syntax, notation, axiom, sorry.
-/
import Derived.Test.YtekpbpcfeopilaaChecked
import GoSem.Claim
import GoSem.ClaimJoined
import GoSem.ClaimMapViews
import Derived.JoinedTies
import Derived.KernelRfl
namespace Go.Proofs.Ytekpbpcfeopilaa
/- THE CELL 'sum', in the pinned program and in every row, IS THE sha256 OF THE DUMP (.gsa) THAT YtekpbpcfeopilaaProg.lean LOADS. Nothing in Lean hashes anything: it is a label: what it is worth is what the hold of that sum in a sandbox is worth. -/
noncomputable def Try.pinned : Pinned := { name := "ytekpbpcfeopilaa", sum := "32f57ee5c38acb9fe7e5c7504ffba2822c0b7776173728cfab2ca31665f04167", checked := Try.checked }
namespace Rows
def none {H : Type} : Left H := { results := [], args := [] }

/-- 'precinctlaw08.StreamCapacity': WHATEVER THE INPUT: true; the input reads as it did. -/
def streamCapacitySpec : ChangeSpec := { name := "streamCapacity", fn := fun _ => fun
  | [d] => { results := [.lit (.bool true)], args := [d] }
  | _ => none }
def streamCapacityRow : OpenClaim := { program := "ytekpbpcfeopilaa", sum := "32f57ee5c38acb9fe7e5c7504ffba2822c0b7776173728cfab2ca31665f04167", func := "precinct/precinctlaw08.StreamCapacity", spec := "streamCapacity", apart := false }
def StreamCapacitySaid : Prop := streamCapacityRow.holds Try.pinned (OpenSpec.ofChange streamCapacitySpec)

/-- ITS FALSE NEIGHBOUR: 'it returns false'. Refute it at one input. -/
def streamCapacityWrong : ChangeSpec := { name := "streamCapacity", fn := fun _ => fun
  | [d] => { results := [.lit (.bool false)], args := [d] }
  | _ => none }
def StreamCapacityWrongFalsely : Prop := streamCapacityRow.holds Try.pinned (OpenSpec.ofChange streamCapacityWrong)

/-- 'precinctlaw07.AreaMakes': WHATEVER THE INPUT: true; the input reads as it did. -/
def areaMakesSpec : ChangeSpec := { name := "areaMakes", fn := fun _ => fun
  | [d] => { results := [.lit (.bool true)], args := [d] }
  | _ => none }
def areaMakesRow : OpenClaim := { program := "ytekpbpcfeopilaa", sum := "32f57ee5c38acb9fe7e5c7504ffba2822c0b7776173728cfab2ca31665f04167", func := "precinct/precinctlaw07.AreaMakes", spec := "areaMakes", apart := false }
def AreaMakesSaid : Prop := areaMakesRow.holds Try.pinned (OpenSpec.ofChange areaMakesSpec)

/-- ITS FALSE NEIGHBOUR: 'it returns false'. Refute it at one input. -/
def areaMakesWrong : ChangeSpec := { name := "areaMakes", fn := fun _ => fun
  | [d] => { results := [.lit (.bool false)], args := [d] }
  | _ => none }
def AreaMakesWrongFalsely : Prop := areaMakesRow.holds Try.pinned (OpenSpec.ofChange areaMakesWrong)

/-- 'precinctlaw07.AreaSplits': WHATEVER THE INPUT: true; the input reads as it did. -/
def areaSplitsSpec : ChangeSpec := { name := "areaSplits", fn := fun _ => fun
  | [d1, d2, d3] => { results := [.lit (.bool true)], args := [d1, d2, d3] }
  | _ => none }
def areaSplitsRow : OpenClaim := { program := "ytekpbpcfeopilaa", sum := "32f57ee5c38acb9fe7e5c7504ffba2822c0b7776173728cfab2ca31665f04167", func := "precinct/precinctlaw07.AreaSplits", spec := "areaSplits", apart := false }
def AreaSplitsSaid : Prop := areaSplitsRow.holds Try.pinned (OpenSpec.ofChange areaSplitsSpec)

/-- ITS FALSE NEIGHBOUR: 'it returns false'. Refute it at one input. -/
def areaSplitsWrong : ChangeSpec := { name := "areaSplits", fn := fun _ => fun
  | [d1, d2, d3] => { results := [.lit (.bool false)], args := [d1, d2, d3] }
  | _ => none }
def AreaSplitsWrongFalsely : Prop := areaSplitsRow.holds Try.pinned (OpenSpec.ofChange areaSplitsWrong)

/-- 'precinctlaw06.DiskSizes': WHATEVER THE INPUT: true; the input reads as it did. -/
def diskSizesSpec : ChangeSpec := { name := "diskSizes", fn := fun _ => fun
  | [d] => { results := [.lit (.bool true)], args := [d] }
  | _ => none }
def diskSizesRow : OpenClaim := { program := "ytekpbpcfeopilaa", sum := "32f57ee5c38acb9fe7e5c7504ffba2822c0b7776173728cfab2ca31665f04167", func := "precinct/precinctlaw06.DiskSizes", spec := "diskSizes", inPlace := ["internal/abi.NoEscape", "internal/bytealg.MakeNoZero"], unfollowed := true, recurses := true, apart := false }
def DiskSizesSaid : Prop := diskSizesRow.holds Try.pinned (OpenSpec.ofChange diskSizesSpec)

/-- ITS FALSE NEIGHBOUR: 'it returns false'. Refute it at one input. -/
def diskSizesWrong : ChangeSpec := { name := "diskSizes", fn := fun _ => fun
  | [d] => { results := [.lit (.bool false)], args := [d] }
  | _ => none }
def DiskSizesWrongFalsely : Prop := diskSizesRow.holds Try.pinned (OpenSpec.ofChange diskSizesWrong)

/-- 'precinctlaw06.DiskLays': WHATEVER THE INPUT: true; the input reads as it did. -/
def diskLaysSpec : ChangeSpec := { name := "diskLays", fn := fun _ => fun
  | [d1, d2, d3] => { results := [.lit (.bool true)], args := [d1, d2, d3] }
  | _ => none }
def diskLaysRow : OpenClaim := { program := "ytekpbpcfeopilaa", sum := "32f57ee5c38acb9fe7e5c7504ffba2822c0b7776173728cfab2ca31665f04167", func := "precinct/precinctlaw06.DiskLays", spec := "diskLays", inPlace := ["internal/abi.NoEscape", "internal/bytealg.MakeNoZero"], unfollowed := true, recurses := true, apart := false }
def DiskLaysSaid : Prop := diskLaysRow.holds Try.pinned (OpenSpec.ofChange diskLaysSpec)

/-- ITS FALSE NEIGHBOUR: 'it returns false'. Refute it at one input. -/
def diskLaysWrong : ChangeSpec := { name := "diskLays", fn := fun _ => fun
  | [d1, d2, d3] => { results := [.lit (.bool false)], args := [d1, d2, d3] }
  | _ => none }
def DiskLaysWrongFalsely : Prop := diskLaysRow.holds Try.pinned (OpenSpec.ofChange diskLaysWrong)

/-- 'precinctlaw06.DiskLasts': WHATEVER THE INPUT: true; the input reads as it did. -/
def diskLastsSpec : ChangeSpec := { name := "diskLasts", fn := fun _ => fun
  | [d1, d2] => { results := [.lit (.bool true)], args := [d1, d2] }
  | _ => none }
def diskLastsRow : OpenClaim := { program := "ytekpbpcfeopilaa", sum := "32f57ee5c38acb9fe7e5c7504ffba2822c0b7776173728cfab2ca31665f04167", func := "precinct/precinctlaw06.DiskLasts", spec := "diskLasts", inPlace := ["internal/abi.NoEscape", "internal/bytealg.MakeNoZero"], unfollowed := true, recurses := true, apart := false }
def DiskLastsSaid : Prop := diskLastsRow.holds Try.pinned (OpenSpec.ofChange diskLastsSpec)

/-- ITS FALSE NEIGHBOUR: 'it returns false'. Refute it at one input. -/
def diskLastsWrong : ChangeSpec := { name := "diskLasts", fn := fun _ => fun
  | [d1, d2] => { results := [.lit (.bool false)], args := [d1, d2] }
  | _ => none }
def DiskLastsWrongFalsely : Prop := diskLastsRow.holds Try.pinned (OpenSpec.ofChange diskLastsWrong)

/-- 'precinctlaw06.DiskApart': WHATEVER THE INPUT: true; the input reads as it did. -/
def diskApartSpec : ChangeSpec := { name := "diskApart", fn := fun _ => fun
  | [d1, d2] => { results := [.lit (.bool true)], args := [d1, d2] }
  | _ => none }
def diskApartRow : OpenClaim := { program := "ytekpbpcfeopilaa", sum := "32f57ee5c38acb9fe7e5c7504ffba2822c0b7776173728cfab2ca31665f04167", func := "precinct/precinctlaw06.DiskApart", spec := "diskApart", inPlace := ["internal/abi.NoEscape", "internal/bytealg.MakeNoZero"], unfollowed := true, recurses := true, apart := false }
def DiskApartSaid : Prop := diskApartRow.holds Try.pinned (OpenSpec.ofChange diskApartSpec)

/-- ITS FALSE NEIGHBOUR: 'it returns false'. Refute it at one input. -/
def diskApartWrong : ChangeSpec := { name := "diskApart", fn := fun _ => fun
  | [d1, d2] => { results := [.lit (.bool false)], args := [d1, d2] }
  | _ => none }
def DiskApartWrongFalsely : Prop := diskApartRow.holds Try.pinned (OpenSpec.ofChange diskApartWrong)

/-- 'precinctlaw06.DiskPlays': WHATEVER THE INPUT: true; the input reads as it did. -/
def diskPlaysSpec : ChangeSpec := { name := "diskPlays", fn := fun _ => fun
  | [d1, d2] => { results := [.lit (.bool true)], args := [d1, d2] }
  | _ => none }
def diskPlaysRow : OpenClaim := { program := "ytekpbpcfeopilaa", sum := "32f57ee5c38acb9fe7e5c7504ffba2822c0b7776173728cfab2ca31665f04167", func := "precinct/precinctlaw06.DiskPlays", spec := "diskPlays", inPlace := ["internal/abi.NoEscape", "internal/bytealg.MakeNoZero"], unfollowed := true, recurses := true, apart := false }
def DiskPlaysSaid : Prop := diskPlaysRow.holds Try.pinned (OpenSpec.ofChange diskPlaysSpec)

/-- ITS FALSE NEIGHBOUR: 'it returns false'. Refute it at one input. -/
def diskPlaysWrong : ChangeSpec := { name := "diskPlays", fn := fun _ => fun
  | [d1, d2] => { results := [.lit (.bool false)], args := [d1, d2] }
  | _ => none }
def DiskPlaysWrongFalsely : Prop := diskPlaysRow.holds Try.pinned (OpenSpec.ofChange diskPlaysWrong)

/-- 'precinctlaw06.DiskNil': WHATEVER THE INPUT: true; the input reads as it did. -/
def diskNilSpec : ChangeSpec := { name := "diskNil", fn := fun _ => fun
  | [d] => { results := [.lit (.bool true)], args := [d] }
  | _ => none }
def diskNilRow : OpenClaim := { program := "ytekpbpcfeopilaa", sum := "32f57ee5c38acb9fe7e5c7504ffba2822c0b7776173728cfab2ca31665f04167", func := "precinct/precinctlaw06.DiskNil", spec := "diskNil", inPlace := ["internal/abi.NoEscape", "internal/bytealg.MakeNoZero"], unfollowed := true, recurses := true, apart := false }
def DiskNilSaid : Prop := diskNilRow.holds Try.pinned (OpenSpec.ofChange diskNilSpec)

/-- ITS FALSE NEIGHBOUR: 'it returns false'. Refute it at one input. -/
def diskNilWrong : ChangeSpec := { name := "diskNil", fn := fun _ => fun
  | [d] => { results := [.lit (.bool false)], args := [d] }
  | _ => none }
def DiskNilWrongFalsely : Prop := diskNilRow.holds Try.pinned (OpenSpec.ofChange diskNilWrong)

/- THE SECOND FORM. 'bulk': how many values and letters a reading holds, each counted each time it is reached (what is shared counts as often as it is met; a slice's spare places count too). A statement '..UptoSaid' is the law's where the arguments, and the package variables that the reading takes, are together of bulk at most 1048576: NARROWER than '..Said'. Prove '..Said' where nothing that the law and all that it calls make is longer than what came in: it says more and counts as full. Else prove '..UptoSaid'. A law counts once. -/
mutual
def uptoBulk {H : Type} : DataW H → Nat
  | .lit (.string bytes) => bytes.length + 1
  | .lit _ => 1
  | .nil => 1
  | .ptr d => uptoBulk d + 1
  | .slice elems spare => uptoBulkAll elems + uptoBulkAll spare + 1
  | .agg parts => uptoBulkAll parts + 1
  | .iface _ d => uptoBulk d + 1
  | .map entries => uptoBulkEntries entries + 1
  | .held _ => 1
def uptoBulkAll {H : Type} : List (DataW H) → Nat
  | [] => 0
  | d :: r => uptoBulk d + uptoBulkAll r
def uptoBulkEntries {H : Type} : List (Lit × DataW H) → Nat
  | [] => 0
  | x :: r => uptoBulkEntry x + uptoBulkEntries r
def uptoBulkEntry {H : Type} : Lit × DataW H → Nat
  | (.string bytes, d) => bytes.length + uptoBulk d + 1
  | (_, d) => uptoBulk d + 1
 end
def uptoSmall : (H : Type) → List (DataW H) → Bool := fun _ ds => decide (uptoBulkAll ds ≤ 1048576)
def OpenSpec.upto (s : _root_.Go.ChangeSpec) : _root_.Go.OpenSpec := { _root_.Go.OpenSpec.ofChange s with cond := some uptoSmall }

/-- 'precinctlaw08.StreamCapacity', WHERE WHAT IT READS IS OF BULK AT MOST 1048576: true; the input reads as it did. -/
def streamCapacityUptoRow : OpenClaim := { program := "ytekpbpcfeopilaa", sum := "32f57ee5c38acb9fe7e5c7504ffba2822c0b7776173728cfab2ca31665f04167", func := "precinct/precinctlaw08.StreamCapacity", spec := "streamCapacity", apart := false, narrowed := true }
def StreamCapacityUptoSaid : Prop := streamCapacityUptoRow.holds Try.pinned (OpenSpec.upto streamCapacitySpec)

/-- 'precinctlaw07.AreaMakes', WHERE WHAT IT READS IS OF BULK AT MOST 1048576: true; the input reads as it did. -/
def areaMakesUptoRow : OpenClaim := { program := "ytekpbpcfeopilaa", sum := "32f57ee5c38acb9fe7e5c7504ffba2822c0b7776173728cfab2ca31665f04167", func := "precinct/precinctlaw07.AreaMakes", spec := "areaMakes", apart := false, narrowed := true }
def AreaMakesUptoSaid : Prop := areaMakesUptoRow.holds Try.pinned (OpenSpec.upto areaMakesSpec)

/-- 'precinctlaw07.AreaSplits', WHERE WHAT IT READS IS OF BULK AT MOST 1048576: true; the input reads as it did. -/
def areaSplitsUptoRow : OpenClaim := { program := "ytekpbpcfeopilaa", sum := "32f57ee5c38acb9fe7e5c7504ffba2822c0b7776173728cfab2ca31665f04167", func := "precinct/precinctlaw07.AreaSplits", spec := "areaSplits", apart := false, narrowed := true }
def AreaSplitsUptoSaid : Prop := areaSplitsUptoRow.holds Try.pinned (OpenSpec.upto areaSplitsSpec)

/-- 'precinctlaw06.DiskSizes', WHERE WHAT IT READS IS OF BULK AT MOST 1048576: true; the input reads as it did. -/
def diskSizesUptoRow : OpenClaim := { program := "ytekpbpcfeopilaa", sum := "32f57ee5c38acb9fe7e5c7504ffba2822c0b7776173728cfab2ca31665f04167", func := "precinct/precinctlaw06.DiskSizes", spec := "diskSizes", inPlace := ["internal/abi.NoEscape", "internal/bytealg.MakeNoZero"], unfollowed := true, recurses := true, apart := false, narrowed := true }
def DiskSizesUptoSaid : Prop := diskSizesUptoRow.holds Try.pinned (OpenSpec.upto diskSizesSpec)

/-- 'precinctlaw06.DiskLays', WHERE WHAT IT READS IS OF BULK AT MOST 1048576: true; the input reads as it did. -/
def diskLaysUptoRow : OpenClaim := { program := "ytekpbpcfeopilaa", sum := "32f57ee5c38acb9fe7e5c7504ffba2822c0b7776173728cfab2ca31665f04167", func := "precinct/precinctlaw06.DiskLays", spec := "diskLays", inPlace := ["internal/abi.NoEscape", "internal/bytealg.MakeNoZero"], unfollowed := true, recurses := true, apart := false, narrowed := true }
def DiskLaysUptoSaid : Prop := diskLaysUptoRow.holds Try.pinned (OpenSpec.upto diskLaysSpec)

/-- 'precinctlaw06.DiskLasts', WHERE WHAT IT READS IS OF BULK AT MOST 1048576: true; the input reads as it did. -/
def diskLastsUptoRow : OpenClaim := { program := "ytekpbpcfeopilaa", sum := "32f57ee5c38acb9fe7e5c7504ffba2822c0b7776173728cfab2ca31665f04167", func := "precinct/precinctlaw06.DiskLasts", spec := "diskLasts", inPlace := ["internal/abi.NoEscape", "internal/bytealg.MakeNoZero"], unfollowed := true, recurses := true, apart := false, narrowed := true }
def DiskLastsUptoSaid : Prop := diskLastsUptoRow.holds Try.pinned (OpenSpec.upto diskLastsSpec)

/-- 'precinctlaw06.DiskApart', WHERE WHAT IT READS IS OF BULK AT MOST 1048576: true; the input reads as it did. -/
def diskApartUptoRow : OpenClaim := { program := "ytekpbpcfeopilaa", sum := "32f57ee5c38acb9fe7e5c7504ffba2822c0b7776173728cfab2ca31665f04167", func := "precinct/precinctlaw06.DiskApart", spec := "diskApart", inPlace := ["internal/abi.NoEscape", "internal/bytealg.MakeNoZero"], unfollowed := true, recurses := true, apart := false, narrowed := true }
def DiskApartUptoSaid : Prop := diskApartUptoRow.holds Try.pinned (OpenSpec.upto diskApartSpec)

/-- 'precinctlaw06.DiskPlays', WHERE WHAT IT READS IS OF BULK AT MOST 1048576: true; the input reads as it did. -/
def diskPlaysUptoRow : OpenClaim := { program := "ytekpbpcfeopilaa", sum := "32f57ee5c38acb9fe7e5c7504ffba2822c0b7776173728cfab2ca31665f04167", func := "precinct/precinctlaw06.DiskPlays", spec := "diskPlays", inPlace := ["internal/abi.NoEscape", "internal/bytealg.MakeNoZero"], unfollowed := true, recurses := true, apart := false, narrowed := true }
def DiskPlaysUptoSaid : Prop := diskPlaysUptoRow.holds Try.pinned (OpenSpec.upto diskPlaysSpec)

/-- 'precinctlaw06.DiskNil', WHERE WHAT IT READS IS OF BULK AT MOST 1048576: true; the input reads as it did. -/
def diskNilUptoRow : OpenClaim := { program := "ytekpbpcfeopilaa", sum := "32f57ee5c38acb9fe7e5c7504ffba2822c0b7776173728cfab2ca31665f04167", func := "precinct/precinctlaw06.DiskNil", spec := "diskNil", inPlace := ["internal/abi.NoEscape", "internal/bytealg.MakeNoZero"], unfollowed := true, recurses := true, apart := false, narrowed := true }
def DiskNilUptoSaid : Prop := diskNilUptoRow.holds Try.pinned (OpenSpec.upto diskNilSpec)

end Rows
end Go.Proofs.Ytekpbpcfeopilaa
