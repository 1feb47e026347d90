/-
  No cell of these rows narrows 'for every input' (looked for: loops, veiled, ifaces, maps, wideKeys, modest, calm, conditions, laid).
  DERIVED. THE GIVEN ROWS OF THIS SEAT. 6 by the template 'for every input the law returns true; each argument reads behind the call as it read before'; 0 by the template 'total and deterministic' (their statements: YtifdfhonhphojaaTotals.lean).
  GIVEN WITH THE SEED: the statements are not yours to turn. If you find one false, say at which input.
  Laid BY PROGRAM, IN A SANDBOX (cutbox-rows.mjs): the forced cells as the released guide's own fill.sh prints them over the translation b2d2b0c88273c4e8… (all of the seat's roots in one cut). By AI agents, Wed Nov 11 2026. No macro, syntax, notation, axiom, sorry.
-/
import Derived.Test.YtifdfhonhphojaaChecked
import GoSem.Claim
import GoSem.ClaimJoined
import GoSem.ClaimMapViews
import Derived.JoinedTies
import Derived.KernelRfl
namespace Go.Proofs.Ytifdfhonhphojaa
/- THE CELL 'sum', in the pinned program and in every row, IS THE sha256 OF THE DUMP (.gsa) THAT YtifdfhonhphojaaProg.lean LOADS. Nothing in Lean hashes anything: it is a label: what it is worth is what the hold of that sum in a sandbox is worth. -/
noncomputable def Try.pinned : Pinned := { name := "ytifdfhonhphojaa", sum := "b2d2b0c88273c4e8116237bdf7428b6ad5caf00f0aa2311f7bbab7dac027074d", checked := Try.checked }
namespace Rows
def none {H : Type} : Left H := { results := [], args := [] }

/-- 'precinctlaw11.GrantNames': WHATEVER THE INPUT: true; the input reads as it did. -/
def grantNamesSpec : ChangeSpec := { name := "grantNames", fn := fun _ => fun
  | [d] => { results := [.lit (.bool true)], args := [d] }
  | _ => none }
def grantNamesRow : OpenClaim := { program := "ytifdfhonhphojaa", sum := "b2d2b0c88273c4e8116237bdf7428b6ad5caf00f0aa2311f7bbab7dac027074d", func := "precinct/precinctlaw11.GrantNames", spec := "grantNames", plainKeys := false, apart := false }
def GrantNamesSaid : Prop := grantNamesRow.holds Try.pinned (OpenSpec.ofChange grantNamesSpec)

/-- ITS FALSE NEIGHBOUR: 'it returns false'. Refute it at one input. -/
def grantNamesWrong : ChangeSpec := { name := "grantNames", fn := fun _ => fun
  | [d] => { results := [.lit (.bool false)], args := [d] }
  | _ => none }
def GrantNamesWrongFalsely : Prop := grantNamesRow.holds Try.pinned (OpenSpec.ofChange grantNamesWrong)

/-- 'precinctlaw11.GrantReaches': WHATEVER THE INPUT: true; the input reads as it did. -/
def grantReachesSpec : ChangeSpec := { name := "grantReaches", fn := fun _ => fun
  | [d1, d2] => { results := [.lit (.bool true)], args := [d1, d2] }
  | _ => none }
def grantReachesRow : OpenClaim := { program := "ytifdfhonhphojaa", sum := "b2d2b0c88273c4e8116237bdf7428b6ad5caf00f0aa2311f7bbab7dac027074d", func := "precinct/precinctlaw11.GrantReaches", spec := "grantReaches", inPlace := ["internal/bytealg.abigen_runtime_cmpstring"], unfollowed := true, recurses := true, plainKeys := false, apart := false }
def GrantReachesSaid : Prop := grantReachesRow.holds Try.pinned (OpenSpec.ofChange grantReachesSpec)

/-- ITS FALSE NEIGHBOUR: 'it returns false'. Refute it at one input. -/
def grantReachesWrong : ChangeSpec := { name := "grantReaches", fn := fun _ => fun
  | [d1, d2] => { results := [.lit (.bool false)], args := [d1, d2] }
  | _ => none }
def GrantReachesWrongFalsely : Prop := grantReachesRow.holds Try.pinned (OpenSpec.ofChange grantReachesWrong)

/-- 'precinctlaw11.GrantMutual': WHATEVER THE INPUT: true; the input reads as it did. -/
def grantMutualSpec : ChangeSpec := { name := "grantMutual", fn := fun _ => fun
  | [d1, d2, d3] => { results := [.lit (.bool true)], args := [d1, d2, d3] }
  | _ => none }
def grantMutualRow : OpenClaim := { program := "ytifdfhonhphojaa", sum := "b2d2b0c88273c4e8116237bdf7428b6ad5caf00f0aa2311f7bbab7dac027074d", func := "precinct/precinctlaw11.GrantMutual", spec := "grantMutual", inPlace := ["internal/bytealg.abigen_runtime_cmpstring"], unfollowed := true, recurses := true, plainKeys := false, apart := false }
def GrantMutualSaid : Prop := grantMutualRow.holds Try.pinned (OpenSpec.ofChange grantMutualSpec)

/-- ITS FALSE NEIGHBOUR: 'it returns false'. Refute it at one input. -/
def grantMutualWrong : ChangeSpec := { name := "grantMutual", fn := fun _ => fun
  | [d1, d2, d3] => { results := [.lit (.bool false)], args := [d1, d2, d3] }
  | _ => none }
def GrantMutualWrongFalsely : Prop := grantMutualRow.holds Try.pinned (OpenSpec.ofChange grantMutualWrong)

/-- 'precinctlaw11.GrantPlays': WHATEVER THE INPUT: true; the input reads as it did. -/
def grantPlaysSpec : ChangeSpec := { name := "grantPlays", fn := fun _ => fun
  | [d1, d2] => { results := [.lit (.bool true)], args := [d1, d2] }
  | _ => none }
def grantPlaysRow : OpenClaim := { program := "ytifdfhonhphojaa", sum := "b2d2b0c88273c4e8116237bdf7428b6ad5caf00f0aa2311f7bbab7dac027074d", func := "precinct/precinctlaw11.GrantPlays", spec := "grantPlays", inPlace := ["internal/bytealg.abigen_runtime_cmpstring"], unfollowed := true, recurses := true, plainKeys := false, apart := false }
def GrantPlaysSaid : Prop := grantPlaysRow.holds Try.pinned (OpenSpec.ofChange grantPlaysSpec)

/-- ITS FALSE NEIGHBOUR: 'it returns false'. Refute it at one input. -/
def grantPlaysWrong : ChangeSpec := { name := "grantPlays", fn := fun _ => fun
  | [d1, d2] => { results := [.lit (.bool false)], args := [d1, d2] }
  | _ => none }
def GrantPlaysWrongFalsely : Prop := grantPlaysRow.holds Try.pinned (OpenSpec.ofChange grantPlaysWrong)

/-- 'precinctlaw11.GrantNews': WHATEVER THE INPUT: true; the input reads as it did. -/
def grantNewsSpec : ChangeSpec := { name := "grantNews", fn := fun _ => fun
  | [d1, d2] => { results := [.lit (.bool true)], args := [d1, d2] }
  | _ => none }
def grantNewsRow : OpenClaim := { program := "ytifdfhonhphojaa", sum := "b2d2b0c88273c4e8116237bdf7428b6ad5caf00f0aa2311f7bbab7dac027074d", func := "precinct/precinctlaw11.GrantNews", spec := "grantNews", inPlace := ["internal/bytealg.abigen_runtime_cmpstring"], unfollowed := true, recurses := true, plainKeys := false, apart := false }
def GrantNewsSaid : Prop := grantNewsRow.holds Try.pinned (OpenSpec.ofChange grantNewsSpec)

/-- ITS FALSE NEIGHBOUR: 'it returns false'. Refute it at one input. -/
def grantNewsWrong : ChangeSpec := { name := "grantNews", fn := fun _ => fun
  | [d1, d2] => { results := [.lit (.bool false)], args := [d1, d2] }
  | _ => none }
def GrantNewsWrongFalsely : Prop := grantNewsRow.holds Try.pinned (OpenSpec.ofChange grantNewsWrong)

/-- 'precinctlaw11.GrantLists': WHATEVER THE INPUT: true; the input reads as it did. -/
def grantListsSpec : ChangeSpec := { name := "grantLists", fn := fun _ => fun
  | [d1, d2] => { results := [.lit (.bool true)], args := [d1, d2] }
  | _ => none }
def grantListsRow : OpenClaim := { program := "ytifdfhonhphojaa", sum := "b2d2b0c88273c4e8116237bdf7428b6ad5caf00f0aa2311f7bbab7dac027074d", func := "precinct/precinctlaw11.GrantLists", spec := "grantLists", inPlace := ["internal/bytealg.abigen_runtime_cmpstring"], unfollowed := true, recurses := true, plainKeys := false, apart := false }
def GrantListsSaid : Prop := grantListsRow.holds Try.pinned (OpenSpec.ofChange grantListsSpec)

/-- ITS FALSE NEIGHBOUR: 'it returns false'. Refute it at one input. -/
def grantListsWrong : ChangeSpec := { name := "grantLists", fn := fun _ => fun
  | [d1, d2] => { results := [.lit (.bool false)], args := [d1, d2] }
  | _ => none }
def GrantListsWrongFalsely : Prop := grantListsRow.holds Try.pinned (OpenSpec.ofChange grantListsWrong)

/- THE SECOND FORM. 'bulk': how many values and letters a reading holds, each counted each time it is reached (what is shared counts as often as it is met; a slice's spare places count too). A statement '..UptoSaid' is the law's where the arguments, and the package variables that the reading takes, are together of bulk at most 1048576: NARROWER than '..Said'. Prove '..Said' where nothing that the law and all that it calls make is longer than what came in: it says more and counts as full. Else prove '..UptoSaid'. A law counts once. -/
mutual
def uptoBulk {H : Type} : DataW H → Nat
  | .lit (.string bytes) => bytes.length + 1
  | .lit _ => 1
  | .nil => 1
  | .ptr d => uptoBulk d + 1
  | .slice elems spare => uptoBulkAll elems + uptoBulkAll spare + 1
  | .agg parts => uptoBulkAll parts + 1
  | .iface _ d => uptoBulk d + 1
  | .map entries => uptoBulkEntries entries + 1
  | .held _ => 1
def uptoBulkAll {H : Type} : List (DataW H) → Nat
  | [] => 0
  | d :: r => uptoBulk d + uptoBulkAll r
def uptoBulkEntries {H : Type} : List (Lit × DataW H) → Nat
  | [] => 0
  | x :: r => uptoBulkEntry x + uptoBulkEntries r
def uptoBulkEntry {H : Type} : Lit × DataW H → Nat
  | (.string bytes, d) => bytes.length + uptoBulk d + 1
  | (_, d) => uptoBulk d + 1
 end
def uptoSmall : (H : Type) → List (DataW H) → Bool := fun _ ds => decide (uptoBulkAll ds ≤ 1048576)
def OpenSpec.upto (s : _root_.Go.ChangeSpec) : _root_.Go.OpenSpec := { _root_.Go.OpenSpec.ofChange s with cond := some uptoSmall }

/-- 'precinctlaw11.GrantNames', WHERE WHAT IT READS IS OF BULK AT MOST 1048576: true; the input reads as it did. -/
def grantNamesUptoRow : OpenClaim := { program := "ytifdfhonhphojaa", sum := "b2d2b0c88273c4e8116237bdf7428b6ad5caf00f0aa2311f7bbab7dac027074d", func := "precinct/precinctlaw11.GrantNames", spec := "grantNames", plainKeys := false, apart := false, narrowed := true }
def GrantNamesUptoSaid : Prop := grantNamesUptoRow.holds Try.pinned (OpenSpec.upto grantNamesSpec)

/-- 'precinctlaw11.GrantReaches', WHERE WHAT IT READS IS OF BULK AT MOST 1048576: true; the input reads as it did. -/
def grantReachesUptoRow : OpenClaim := { program := "ytifdfhonhphojaa", sum := "b2d2b0c88273c4e8116237bdf7428b6ad5caf00f0aa2311f7bbab7dac027074d", func := "precinct/precinctlaw11.GrantReaches", spec := "grantReaches", inPlace := ["internal/bytealg.abigen_runtime_cmpstring"], unfollowed := true, recurses := true, plainKeys := false, apart := false, narrowed := true }
def GrantReachesUptoSaid : Prop := grantReachesUptoRow.holds Try.pinned (OpenSpec.upto grantReachesSpec)

/-- 'precinctlaw11.GrantMutual', WHERE WHAT IT READS IS OF BULK AT MOST 1048576: true; the input reads as it did. -/
def grantMutualUptoRow : OpenClaim := { program := "ytifdfhonhphojaa", sum := "b2d2b0c88273c4e8116237bdf7428b6ad5caf00f0aa2311f7bbab7dac027074d", func := "precinct/precinctlaw11.GrantMutual", spec := "grantMutual", inPlace := ["internal/bytealg.abigen_runtime_cmpstring"], unfollowed := true, recurses := true, plainKeys := false, apart := false, narrowed := true }
def GrantMutualUptoSaid : Prop := grantMutualUptoRow.holds Try.pinned (OpenSpec.upto grantMutualSpec)

/-- 'precinctlaw11.GrantPlays', WHERE WHAT IT READS IS OF BULK AT MOST 1048576: true; the input reads as it did. -/
def grantPlaysUptoRow : OpenClaim := { program := "ytifdfhonhphojaa", sum := "b2d2b0c88273c4e8116237bdf7428b6ad5caf00f0aa2311f7bbab7dac027074d", func := "precinct/precinctlaw11.GrantPlays", spec := "grantPlays", inPlace := ["internal/bytealg.abigen_runtime_cmpstring"], unfollowed := true, recurses := true, plainKeys := false, apart := false, narrowed := true }
def GrantPlaysUptoSaid : Prop := grantPlaysUptoRow.holds Try.pinned (OpenSpec.upto grantPlaysSpec)

/-- 'precinctlaw11.GrantNews', WHERE WHAT IT READS IS OF BULK AT MOST 1048576: true; the input reads as it did. -/
def grantNewsUptoRow : OpenClaim := { program := "ytifdfhonhphojaa", sum := "b2d2b0c88273c4e8116237bdf7428b6ad5caf00f0aa2311f7bbab7dac027074d", func := "precinct/precinctlaw11.GrantNews", spec := "grantNews", inPlace := ["internal/bytealg.abigen_runtime_cmpstring"], unfollowed := true, recurses := true, plainKeys := false, apart := false, narrowed := true }
def GrantNewsUptoSaid : Prop := grantNewsUptoRow.holds Try.pinned (OpenSpec.upto grantNewsSpec)

/-- 'precinctlaw11.GrantLists', WHERE WHAT IT READS IS OF BULK AT MOST 1048576: true; the input reads as it did. -/
def grantListsUptoRow : OpenClaim := { program := "ytifdfhonhphojaa", sum := "b2d2b0c88273c4e8116237bdf7428b6ad5caf00f0aa2311f7bbab7dac027074d", func := "precinct/precinctlaw11.GrantLists", spec := "grantLists", inPlace := ["internal/bytealg.abigen_runtime_cmpstring"], unfollowed := true, recurses := true, plainKeys := false, apart := false, narrowed := true }
def GrantListsUptoSaid : Prop := grantListsUptoRow.holds Try.pinned (OpenSpec.upto grantListsSpec)

end Rows
end Go.Proofs.Ytifdfhonhphojaa
