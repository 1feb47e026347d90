/-
  NARROWER THAN 'FOR EVERY INPUT', by the rows' own cells (each row's printed sentence says how): AreaParses: laid · AreaJoins: laid · AreaBack: laid · AreaLost: laid · StreamNil: laid · StreamRooms: laid · StreamAny: laid · StreamLasts: laid · StreamResets: laid.
  DERIVED. THE GIVEN ROWS OF THIS SEAT. 9 by the template 'for every input the law returns true; each argument reads behind the call as it read before'; 0 by the template 'total and deterministic' (their statements: YtekpbpcfeopilaaDoorTotals.lean).
  GIVEN WITH THE SEED: the statements are not yours to turn. If you find one false, say at which input.
  Laid BY PROGRAM, IN A SANDBOX (cutbox-rows.mjs): the forced cells as the released guide's own fill.sh prints them over the translation 549bcac254ea8312… (all of the seat's roots in one cut). By AI agents, Wed Nov 11 2026. No macro, syntax, notation, axiom, sorry.
-/
import Derived.Test.YtekpbpcfeopilaaDoorChecked
import GoSem.PinnedTables
import GoSem.Claim
import GoSem.ClaimJoined
import GoSem.ClaimMapViews
import Derived.JoinedTies
import Derived.KernelRfl
namespace Go.Proofs.YtekpbpcfeopilaaDoor
/- THE CELL 'sum', in the pinned program and in every row, IS THE sha256 OF THE DUMP (.gsa) THAT YtekpbpcfeopilaaDoorProg.lean LOADS. Nothing in Lean hashes anything: it is a label: what it is worth is what the hold of that sum in a sandbox is worth. -/
noncomputable def Tryd.pinned : Pinned := { name := "ytekpbpcfeopilaadoor", sum := "549bcac254ea83128348057e554714e380ae46eb0237a414f5a0c2f4ae6e53d4", checked := Tryd.checked }
namespace Rows
def none {H : Type} : Left H := { results := [], args := [] }

/- WHAT THE LISTED PACKAGE-LEVEL VARIABLES READ AS WHEN THE CALL BEGINS. Each datum BY PROGRAM (the guide's laid-datum.mjs) off the statement by which the dump's own 'gosem.cut.vars' lays the variable. In a bare row this is a premise. The card (YtekpbpcfeopilaaDoorCards.lean) ties it to the program's text. -/
def laid_unicode_utf8_acceptRanges {H : Type} : DataW H := .agg [.agg [.lit (.int .u8 128), .lit (.int .u8 191)], .agg [.lit (.int .u8 160), .lit (.int .u8 191)], .agg [.lit (.int .u8 128), .lit (.int .u8 159)], .agg [.lit (.int .u8 144), .lit (.int .u8 191)], .agg [.lit (.int .u8 128), .lit (.int .u8 143)], .agg [.lit (.int .u8 0), .lit (.int .u8 0)], .agg [.lit (.int .u8 0), .lit (.int .u8 0)], .agg [.lit (.int .u8 0), .lit (.int .u8 0)], .agg [.lit (.int .u8 0), .lit (.int .u8 0)], .agg [.lit (.int .u8 0), .lit (.int .u8 0)], .agg [.lit (.int .u8 0), .lit (.int .u8 0)], .agg [.lit (.int .u8 0), .lit (.int .u8 0)], .agg [.lit (.int .u8 0), .lit (.int .u8 0)], .agg [.lit (.int .u8 0), .lit (.int .u8 0)], .agg [.lit (.int .u8 0), .lit (.int .u8 0)], .agg [.lit (.int .u8 0), .lit (.int .u8 0)]]
/-- One of Go's own tables, pinned by name: the form's constant. -/
def laid_unicode_utf8_first : DataW Unit := Go.Pinned.utf8First

/-- 'precinctlaw07.AreaParses': WHATEVER THE INPUT: true; the input reads as it did. -/
def areaParsesSpec : ChangeSpec := { name := "areaParses", fn := fun _ => fun
  | [d] => { results := [.lit (.bool true)], args := [d] }
  | _ => none }
def areaParsesRow : OpenClaim := { program := "ytekpbpcfeopilaadoor", sum := "549bcac254ea83128348057e554714e380ae46eb0237a414f5a0c2f4ae6e53d4", func := "precinct/precinctlaw07.AreaParses", spec := "areaParses", inPlace := ["internal/bytealg.IndexByteString", "internal/bytealg.IndexString"], named := ["unicode/utf8.first", "unicode/utf8.acceptRanges", "internal/bytealg.MaxLen"], apart := false, laid := [("unicode/utf8.acceptRanges", laid_unicode_utf8_acceptRanges), ("unicode/utf8.first", laid_unicode_utf8_first)] }
def AreaParsesSaid : Prop := areaParsesRow.holds Tryd.pinned (OpenSpec.ofChange areaParsesSpec)

/-- ITS FALSE NEIGHBOUR: 'it returns false'. Refute it at one input. -/
def areaParsesWrong : ChangeSpec := { name := "areaParses", fn := fun _ => fun
  | [d] => { results := [.lit (.bool false)], args := [d] }
  | _ => none }
def AreaParsesWrongFalsely : Prop := areaParsesRow.holds Tryd.pinned (OpenSpec.ofChange areaParsesWrong)

/-- 'precinctlaw07.AreaJoins': WHATEVER THE INPUT: true; the input reads as it did. -/
def areaJoinsSpec : ChangeSpec := { name := "areaJoins", fn := fun _ => fun
  | [d1, d2] => { results := [.lit (.bool true)], args := [d1, d2] }
  | _ => none }
def areaJoinsRow : OpenClaim := { program := "ytekpbpcfeopilaadoor", sum := "549bcac254ea83128348057e554714e380ae46eb0237a414f5a0c2f4ae6e53d4", func := "precinct/precinctlaw07.AreaJoins", spec := "areaJoins", inPlace := ["internal/bytealg.IndexByteString", "internal/bytealg.IndexString", "internal/abi.NoEscape"], named := ["unicode/utf8.first", "unicode/utf8.acceptRanges", "internal/bytealg.MaxLen"], apart := false, laid := [("unicode/utf8.acceptRanges", laid_unicode_utf8_acceptRanges), ("unicode/utf8.first", laid_unicode_utf8_first)] }
def AreaJoinsSaid : Prop := areaJoinsRow.holds Tryd.pinned (OpenSpec.ofChange areaJoinsSpec)

/-- ITS FALSE NEIGHBOUR: 'it returns false'. Refute it at one input. -/
def areaJoinsWrong : ChangeSpec := { name := "areaJoins", fn := fun _ => fun
  | [d1, d2] => { results := [.lit (.bool false)], args := [d1, d2] }
  | _ => none }
def AreaJoinsWrongFalsely : Prop := areaJoinsRow.holds Tryd.pinned (OpenSpec.ofChange areaJoinsWrong)

/-- 'precinctlaw07.AreaBack': WHATEVER THE INPUT: true; the input reads as it did. -/
def areaBackSpec : ChangeSpec := { name := "areaBack", fn := fun _ => fun
  | [d1, d2, d3] => { results := [.lit (.bool true)], args := [d1, d2, d3] }
  | _ => none }
def areaBackRow : OpenClaim := { program := "ytekpbpcfeopilaadoor", sum := "549bcac254ea83128348057e554714e380ae46eb0237a414f5a0c2f4ae6e53d4", func := "precinct/precinctlaw07.AreaBack", spec := "areaBack", inPlace := ["internal/bytealg.IndexByteString", "internal/bytealg.IndexString", "internal/abi.NoEscape"], named := ["unicode/utf8.first", "unicode/utf8.acceptRanges", "internal/bytealg.MaxLen"], apart := false, laid := [("unicode/utf8.acceptRanges", laid_unicode_utf8_acceptRanges), ("unicode/utf8.first", laid_unicode_utf8_first)] }
def AreaBackSaid : Prop := areaBackRow.holds Tryd.pinned (OpenSpec.ofChange areaBackSpec)

/-- ITS FALSE NEIGHBOUR: 'it returns false'. Refute it at one input. -/
def areaBackWrong : ChangeSpec := { name := "areaBack", fn := fun _ => fun
  | [d1, d2, d3] => { results := [.lit (.bool false)], args := [d1, d2, d3] }
  | _ => none }
def AreaBackWrongFalsely : Prop := areaBackRow.holds Tryd.pinned (OpenSpec.ofChange areaBackWrong)

/-- 'precinctlaw07.AreaLost': WHATEVER THE INPUT: true; the input reads as it did. -/
def areaLostSpec : ChangeSpec := { name := "areaLost", fn := fun _ => fun
  | [d1, d2, d3] => { results := [.lit (.bool true)], args := [d1, d2, d3] }
  | _ => none }
def areaLostRow : OpenClaim := { program := "ytekpbpcfeopilaadoor", sum := "549bcac254ea83128348057e554714e380ae46eb0237a414f5a0c2f4ae6e53d4", func := "precinct/precinctlaw07.AreaLost", spec := "areaLost", inPlace := ["internal/bytealg.IndexByteString", "internal/bytealg.IndexString", "internal/abi.NoEscape"], named := ["unicode/utf8.first", "unicode/utf8.acceptRanges", "internal/bytealg.MaxLen"], apart := false, laid := [("unicode/utf8.acceptRanges", laid_unicode_utf8_acceptRanges), ("unicode/utf8.first", laid_unicode_utf8_first)] }
def AreaLostSaid : Prop := areaLostRow.holds Tryd.pinned (OpenSpec.ofChange areaLostSpec)

/-- ITS FALSE NEIGHBOUR: 'it returns false'. Refute it at one input. -/
def areaLostWrong : ChangeSpec := { name := "areaLost", fn := fun _ => fun
  | [d1, d2, d3] => { results := [.lit (.bool false)], args := [d1, d2, d3] }
  | _ => none }
def AreaLostWrongFalsely : Prop := areaLostRow.holds Tryd.pinned (OpenSpec.ofChange areaLostWrong)

/-- 'precinctlaw08.StreamNil': WHATEVER THE INPUT: true; the input reads as it did. -/
def streamNilSpec : ChangeSpec := { name := "streamNil", fn := fun _ => fun
  | [d1, d2] => { results := [.lit (.bool true)], args := [d1, d2] }
  | _ => none }
def streamNilRow : OpenClaim := { program := "ytekpbpcfeopilaadoor", sum := "549bcac254ea83128348057e554714e380ae46eb0237a414f5a0c2f4ae6e53d4", func := "precinct/precinctlaw08.StreamNil", spec := "streamNil", inPlace := ["internal/abi.NoEscape", "internal/bytealg.MakeNoZero", "internal/bytealg.IndexByteString", "internal/bytealg.IndexString"], unfollowed := true, recurses := true, named := ["unicode/utf8.first", "unicode/utf8.acceptRanges", "internal/bytealg.MaxLen"], apart := false, laid := [("unicode/utf8.acceptRanges", laid_unicode_utf8_acceptRanges), ("unicode/utf8.first", laid_unicode_utf8_first)] }
def StreamNilSaid : Prop := streamNilRow.holds Tryd.pinned (OpenSpec.ofChange streamNilSpec)

/-- ITS FALSE NEIGHBOUR: 'it returns false'. Refute it at one input. -/
def streamNilWrong : ChangeSpec := { name := "streamNil", fn := fun _ => fun
  | [d1, d2] => { results := [.lit (.bool false)], args := [d1, d2] }
  | _ => none }
def StreamNilWrongFalsely : Prop := streamNilRow.holds Tryd.pinned (OpenSpec.ofChange streamNilWrong)

/-- 'precinctlaw08.StreamRooms': WHATEVER THE INPUT: true; the input reads as it did. -/
def streamRoomsSpec : ChangeSpec := { name := "streamRooms", fn := fun _ => fun
  | [d1, d2] => { results := [.lit (.bool true)], args := [d1, d2] }
  | _ => none }
def streamRoomsRow : OpenClaim := { program := "ytekpbpcfeopilaadoor", sum := "549bcac254ea83128348057e554714e380ae46eb0237a414f5a0c2f4ae6e53d4", func := "precinct/precinctlaw08.StreamRooms", spec := "streamRooms", inPlace := ["internal/abi.NoEscape", "internal/bytealg.MakeNoZero", "internal/bytealg.IndexByteString", "internal/bytealg.IndexString"], unfollowed := true, recurses := true, named := ["unicode/utf8.first", "unicode/utf8.acceptRanges", "internal/bytealg.MaxLen"], apart := false, laid := [("unicode/utf8.acceptRanges", laid_unicode_utf8_acceptRanges), ("unicode/utf8.first", laid_unicode_utf8_first)] }
def StreamRoomsSaid : Prop := streamRoomsRow.holds Tryd.pinned (OpenSpec.ofChange streamRoomsSpec)

/-- ITS FALSE NEIGHBOUR: 'it returns false'. Refute it at one input. -/
def streamRoomsWrong : ChangeSpec := { name := "streamRooms", fn := fun _ => fun
  | [d1, d2] => { results := [.lit (.bool false)], args := [d1, d2] }
  | _ => none }
def StreamRoomsWrongFalsely : Prop := streamRoomsRow.holds Tryd.pinned (OpenSpec.ofChange streamRoomsWrong)

/-- 'precinctlaw08.StreamAny': WHATEVER THE INPUT: true; the input reads as it did. -/
def streamAnySpec : ChangeSpec := { name := "streamAny", fn := fun _ => fun
  | [d1, d2, d3] => { results := [.lit (.bool true)], args := [d1, d2, d3] }
  | _ => none }
def streamAnyRow : OpenClaim := { program := "ytekpbpcfeopilaadoor", sum := "549bcac254ea83128348057e554714e380ae46eb0237a414f5a0c2f4ae6e53d4", func := "precinct/precinctlaw08.StreamAny", spec := "streamAny", inPlace := ["internal/abi.NoEscape", "internal/bytealg.MakeNoZero", "internal/bytealg.IndexByteString", "internal/bytealg.IndexString"], unfollowed := true, recurses := true, named := ["unicode/utf8.first", "unicode/utf8.acceptRanges", "internal/bytealg.MaxLen"], apart := false, laid := [("unicode/utf8.acceptRanges", laid_unicode_utf8_acceptRanges), ("unicode/utf8.first", laid_unicode_utf8_first)] }
def StreamAnySaid : Prop := streamAnyRow.holds Tryd.pinned (OpenSpec.ofChange streamAnySpec)

/-- ITS FALSE NEIGHBOUR: 'it returns false'. Refute it at one input. -/
def streamAnyWrong : ChangeSpec := { name := "streamAny", fn := fun _ => fun
  | [d1, d2, d3] => { results := [.lit (.bool false)], args := [d1, d2, d3] }
  | _ => none }
def StreamAnyWrongFalsely : Prop := streamAnyRow.holds Tryd.pinned (OpenSpec.ofChange streamAnyWrong)

/-- 'precinctlaw08.StreamLasts': WHATEVER THE INPUT: true; the input reads as it did. -/
def streamLastsSpec : ChangeSpec := { name := "streamLasts", fn := fun _ => fun
  | [d1, d2, d3] => { results := [.lit (.bool true)], args := [d1, d2, d3] }
  | _ => none }
def streamLastsRow : OpenClaim := { program := "ytekpbpcfeopilaadoor", sum := "549bcac254ea83128348057e554714e380ae46eb0237a414f5a0c2f4ae6e53d4", func := "precinct/precinctlaw08.StreamLasts", spec := "streamLasts", inPlace := ["internal/abi.NoEscape", "internal/bytealg.MakeNoZero", "internal/bytealg.IndexByteString", "internal/bytealg.IndexString"], unfollowed := true, recurses := true, named := ["unicode/utf8.first", "unicode/utf8.acceptRanges", "internal/bytealg.MaxLen"], apart := false, laid := [("unicode/utf8.acceptRanges", laid_unicode_utf8_acceptRanges), ("unicode/utf8.first", laid_unicode_utf8_first)] }
def StreamLastsSaid : Prop := streamLastsRow.holds Tryd.pinned (OpenSpec.ofChange streamLastsSpec)

/-- ITS FALSE NEIGHBOUR: 'it returns false'. Refute it at one input. -/
def streamLastsWrong : ChangeSpec := { name := "streamLasts", fn := fun _ => fun
  | [d1, d2, d3] => { results := [.lit (.bool false)], args := [d1, d2, d3] }
  | _ => none }
def StreamLastsWrongFalsely : Prop := streamLastsRow.holds Tryd.pinned (OpenSpec.ofChange streamLastsWrong)

/-- 'precinctlaw08.StreamResets': WHATEVER THE INPUT: true; the input reads as it did. -/
def streamResetsSpec : ChangeSpec := { name := "streamResets", fn := fun _ => fun
  | [d1, d2, d3] => { results := [.lit (.bool true)], args := [d1, d2, d3] }
  | _ => none }
def streamResetsRow : OpenClaim := { program := "ytekpbpcfeopilaadoor", sum := "549bcac254ea83128348057e554714e380ae46eb0237a414f5a0c2f4ae6e53d4", func := "precinct/precinctlaw08.StreamResets", spec := "streamResets", inPlace := ["internal/abi.NoEscape", "internal/bytealg.MakeNoZero", "internal/bytealg.IndexByteString", "internal/bytealg.IndexString"], unfollowed := true, recurses := true, named := ["unicode/utf8.first", "unicode/utf8.acceptRanges", "internal/bytealg.MaxLen"], apart := false, laid := [("unicode/utf8.acceptRanges", laid_unicode_utf8_acceptRanges), ("unicode/utf8.first", laid_unicode_utf8_first)] }
def StreamResetsSaid : Prop := streamResetsRow.holds Tryd.pinned (OpenSpec.ofChange streamResetsSpec)

/-- ITS FALSE NEIGHBOUR: 'it returns false'. Refute it at one input. -/
def streamResetsWrong : ChangeSpec := { name := "streamResets", fn := fun _ => fun
  | [d1, d2, d3] => { results := [.lit (.bool false)], args := [d1, d2, d3] }
  | _ => none }
def StreamResetsWrongFalsely : Prop := streamResetsRow.holds Tryd.pinned (OpenSpec.ofChange streamResetsWrong)

/- THE SECOND FORM. 'bulk': how many values and letters a reading holds, each counted each time it is reached (what is shared counts as often as it is met; a slice's spare places count too). A statement '..UptoSaid' is the law's where the arguments, and the package variables that the reading takes, are together of bulk at most 1048576: NARROWER than '..Said'. Prove '..Said' where nothing that the law and all that it calls make is longer than what came in: it says more and counts as full. Else prove '..UptoSaid'. A law counts once. -/
mutual
def uptoBulk {H : Type} : DataW H → Nat
  | .lit (.string bytes) => bytes.length + 1
  | .lit _ => 1
  | .nil => 1
  | .ptr d => uptoBulk d + 1
  | .slice elems spare => uptoBulkAll elems + uptoBulkAll spare + 1
  | .agg parts => uptoBulkAll parts + 1
  | .iface _ d => uptoBulk d + 1
  | .map entries => uptoBulkEntries entries + 1
  | .held _ => 1
def uptoBulkAll {H : Type} : List (DataW H) → Nat
  | [] => 0
  | d :: r => uptoBulk d + uptoBulkAll r
def uptoBulkEntries {H : Type} : List (Lit × DataW H) → Nat
  | [] => 0
  | x :: r => uptoBulkEntry x + uptoBulkEntries r
def uptoBulkEntry {H : Type} : Lit × DataW H → Nat
  | (.string bytes, d) => bytes.length + uptoBulk d + 1
  | (_, d) => uptoBulk d + 1
 end
def uptoSmall : (H : Type) → List (DataW H) → Bool := fun _ ds => decide (uptoBulkAll ds ≤ 1048576)
def OpenSpec.upto (s : _root_.Go.ChangeSpec) : _root_.Go.OpenSpec := { _root_.Go.OpenSpec.ofChange s with cond := some uptoSmall }

/-- 'precinctlaw07.AreaParses', WHERE WHAT IT READS IS OF BULK AT MOST 1048576: true; the input reads as it did. -/
def areaParsesUptoRow : OpenClaim := { program := "ytekpbpcfeopilaadoor", sum := "549bcac254ea83128348057e554714e380ae46eb0237a414f5a0c2f4ae6e53d4", func := "precinct/precinctlaw07.AreaParses", spec := "areaParses", inPlace := ["internal/bytealg.IndexByteString", "internal/bytealg.IndexString"], named := ["unicode/utf8.first", "unicode/utf8.acceptRanges", "internal/bytealg.MaxLen"], apart := false, laid := [("unicode/utf8.acceptRanges", laid_unicode_utf8_acceptRanges), ("unicode/utf8.first", laid_unicode_utf8_first)], narrowed := true }
def AreaParsesUptoSaid : Prop := areaParsesUptoRow.holds Tryd.pinned (OpenSpec.upto areaParsesSpec)

/-- 'precinctlaw07.AreaJoins', WHERE WHAT IT READS IS OF BULK AT MOST 1048576: true; the input reads as it did. -/
def areaJoinsUptoRow : OpenClaim := { program := "ytekpbpcfeopilaadoor", sum := "549bcac254ea83128348057e554714e380ae46eb0237a414f5a0c2f4ae6e53d4", func := "precinct/precinctlaw07.AreaJoins", spec := "areaJoins", inPlace := ["internal/bytealg.IndexByteString", "internal/bytealg.IndexString", "internal/abi.NoEscape"], named := ["unicode/utf8.first", "unicode/utf8.acceptRanges", "internal/bytealg.MaxLen"], apart := false, laid := [("unicode/utf8.acceptRanges", laid_unicode_utf8_acceptRanges), ("unicode/utf8.first", laid_unicode_utf8_first)], narrowed := true }
def AreaJoinsUptoSaid : Prop := areaJoinsUptoRow.holds Tryd.pinned (OpenSpec.upto areaJoinsSpec)

/-- 'precinctlaw07.AreaBack', WHERE WHAT IT READS IS OF BULK AT MOST 1048576: true; the input reads as it did. -/
def areaBackUptoRow : OpenClaim := { program := "ytekpbpcfeopilaadoor", sum := "549bcac254ea83128348057e554714e380ae46eb0237a414f5a0c2f4ae6e53d4", func := "precinct/precinctlaw07.AreaBack", spec := "areaBack", inPlace := ["internal/bytealg.IndexByteString", "internal/bytealg.IndexString", "internal/abi.NoEscape"], named := ["unicode/utf8.first", "unicode/utf8.acceptRanges", "internal/bytealg.MaxLen"], apart := false, laid := [("unicode/utf8.acceptRanges", laid_unicode_utf8_acceptRanges), ("unicode/utf8.first", laid_unicode_utf8_first)], narrowed := true }
def AreaBackUptoSaid : Prop := areaBackUptoRow.holds Tryd.pinned (OpenSpec.upto areaBackSpec)

/-- 'precinctlaw07.AreaLost', WHERE WHAT IT READS IS OF BULK AT MOST 1048576: true; the input reads as it did. -/
def areaLostUptoRow : OpenClaim := { program := "ytekpbpcfeopilaadoor", sum := "549bcac254ea83128348057e554714e380ae46eb0237a414f5a0c2f4ae6e53d4", func := "precinct/precinctlaw07.AreaLost", spec := "areaLost", inPlace := ["internal/bytealg.IndexByteString", "internal/bytealg.IndexString", "internal/abi.NoEscape"], named := ["unicode/utf8.first", "unicode/utf8.acceptRanges", "internal/bytealg.MaxLen"], apart := false, laid := [("unicode/utf8.acceptRanges", laid_unicode_utf8_acceptRanges), ("unicode/utf8.first", laid_unicode_utf8_first)], narrowed := true }
def AreaLostUptoSaid : Prop := areaLostUptoRow.holds Tryd.pinned (OpenSpec.upto areaLostSpec)

/-- 'precinctlaw08.StreamNil', WHERE WHAT IT READS IS OF BULK AT MOST 1048576: true; the input reads as it did. -/
def streamNilUptoRow : OpenClaim := { program := "ytekpbpcfeopilaadoor", sum := "549bcac254ea83128348057e554714e380ae46eb0237a414f5a0c2f4ae6e53d4", func := "precinct/precinctlaw08.StreamNil", spec := "streamNil", inPlace := ["internal/abi.NoEscape", "internal/bytealg.MakeNoZero", "internal/bytealg.IndexByteString", "internal/bytealg.IndexString"], unfollowed := true, recurses := true, named := ["unicode/utf8.first", "unicode/utf8.acceptRanges", "internal/bytealg.MaxLen"], apart := false, laid := [("unicode/utf8.acceptRanges", laid_unicode_utf8_acceptRanges), ("unicode/utf8.first", laid_unicode_utf8_first)], narrowed := true }
def StreamNilUptoSaid : Prop := streamNilUptoRow.holds Tryd.pinned (OpenSpec.upto streamNilSpec)

/-- 'precinctlaw08.StreamRooms', WHERE WHAT IT READS IS OF BULK AT MOST 1048576: true; the input reads as it did. -/
def streamRoomsUptoRow : OpenClaim := { program := "ytekpbpcfeopilaadoor", sum := "549bcac254ea83128348057e554714e380ae46eb0237a414f5a0c2f4ae6e53d4", func := "precinct/precinctlaw08.StreamRooms", spec := "streamRooms", inPlace := ["internal/abi.NoEscape", "internal/bytealg.MakeNoZero", "internal/bytealg.IndexByteString", "internal/bytealg.IndexString"], unfollowed := true, recurses := true, named := ["unicode/utf8.first", "unicode/utf8.acceptRanges", "internal/bytealg.MaxLen"], apart := false, laid := [("unicode/utf8.acceptRanges", laid_unicode_utf8_acceptRanges), ("unicode/utf8.first", laid_unicode_utf8_first)], narrowed := true }
def StreamRoomsUptoSaid : Prop := streamRoomsUptoRow.holds Tryd.pinned (OpenSpec.upto streamRoomsSpec)

/-- 'precinctlaw08.StreamAny', WHERE WHAT IT READS IS OF BULK AT MOST 1048576: true; the input reads as it did. -/
def streamAnyUptoRow : OpenClaim := { program := "ytekpbpcfeopilaadoor", sum := "549bcac254ea83128348057e554714e380ae46eb0237a414f5a0c2f4ae6e53d4", func := "precinct/precinctlaw08.StreamAny", spec := "streamAny", inPlace := ["internal/abi.NoEscape", "internal/bytealg.MakeNoZero", "internal/bytealg.IndexByteString", "internal/bytealg.IndexString"], unfollowed := true, recurses := true, named := ["unicode/utf8.first", "unicode/utf8.acceptRanges", "internal/bytealg.MaxLen"], apart := false, laid := [("unicode/utf8.acceptRanges", laid_unicode_utf8_acceptRanges), ("unicode/utf8.first", laid_unicode_utf8_first)], narrowed := true }
def StreamAnyUptoSaid : Prop := streamAnyUptoRow.holds Tryd.pinned (OpenSpec.upto streamAnySpec)

/-- 'precinctlaw08.StreamLasts', WHERE WHAT IT READS IS OF BULK AT MOST 1048576: true; the input reads as it did. -/
def streamLastsUptoRow : OpenClaim := { program := "ytekpbpcfeopilaadoor", sum := "549bcac254ea83128348057e554714e380ae46eb0237a414f5a0c2f4ae6e53d4", func := "precinct/precinctlaw08.StreamLasts", spec := "streamLasts", inPlace := ["internal/abi.NoEscape", "internal/bytealg.MakeNoZero", "internal/bytealg.IndexByteString", "internal/bytealg.IndexString"], unfollowed := true, recurses := true, named := ["unicode/utf8.first", "unicode/utf8.acceptRanges", "internal/bytealg.MaxLen"], apart := false, laid := [("unicode/utf8.acceptRanges", laid_unicode_utf8_acceptRanges), ("unicode/utf8.first", laid_unicode_utf8_first)], narrowed := true }
def StreamLastsUptoSaid : Prop := streamLastsUptoRow.holds Tryd.pinned (OpenSpec.upto streamLastsSpec)

/-- 'precinctlaw08.StreamResets', WHERE WHAT IT READS IS OF BULK AT MOST 1048576: true; the input reads as it did. -/
def streamResetsUptoRow : OpenClaim := { program := "ytekpbpcfeopilaadoor", sum := "549bcac254ea83128348057e554714e380ae46eb0237a414f5a0c2f4ae6e53d4", func := "precinct/precinctlaw08.StreamResets", spec := "streamResets", inPlace := ["internal/abi.NoEscape", "internal/bytealg.MakeNoZero", "internal/bytealg.IndexByteString", "internal/bytealg.IndexString"], unfollowed := true, recurses := true, named := ["unicode/utf8.first", "unicode/utf8.acceptRanges", "internal/bytealg.MaxLen"], apart := false, laid := [("unicode/utf8.acceptRanges", laid_unicode_utf8_acceptRanges), ("unicode/utf8.first", laid_unicode_utf8_first)], narrowed := true }
def StreamResetsUptoSaid : Prop := streamResetsUptoRow.holds Tryd.pinned (OpenSpec.upto streamResetsSpec)

end Rows
end Go.Proofs.YtekpbpcfeopilaaDoor
