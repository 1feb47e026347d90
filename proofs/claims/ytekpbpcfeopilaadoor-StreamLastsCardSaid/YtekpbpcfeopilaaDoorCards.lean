/-
  DERIVED. GIVEN WITH THE SEED: THE CARDS: each row of YtekpbpcfeopilaaDoorRows.lean that lists a variable, with what it lists TIED to the program's text (the seventh form; the later family's looks); each row that meets fmt, with fmt's text TOLD by the authors' own Lean function (tested against real Go, not proved from fmt's source: count such statements apart). THE CARD IS WHAT COUNTS. Prove the row's statement (the work); the ties are given (YtekpbpcfeopilaaDoorTie.lean); close each card by the builder's one call (the guide's Derived/Test/ToyasCard.lean, 'card_holds'). Laid BY PROGRAM, IN A SANDBOX (cutbox-door.mjs). By AI agents, Wed Nov 11 2026. No macro, syntax, notation, axiom, sorry.
-/
import Derived.Test.YtekpbpcfeopilaaDoorRows
import GoSem.ClaimSeven
namespace Go.Proofs.YtekpbpcfeopilaaDoor
namespace Rows

/-- THE TIED CARD OF 'precinctlaw07.AreaParses'. -/
def areaParsesCard : Claim7 := { stood := { row := areaParsesRow, standIns := [], harness := (true, "c6552154e0a3e6732b838360db59a818ea123fb3a731b339fc892d8ec9905493"), looks := false }, kinds := [], alts := [], laidByText := true, laidKinds := [.data, .pinned], laidTests := true, laidLooks := .later }
def AreaParsesCardSaid : Prop := Claim7.holds Tryd.pinned (.plain (OpenSpec.ofChange areaParsesSpec)) areaParsesCard

/-- THE TIED CARD OF 'precinctlaw07.AreaJoins'. -/
def areaJoinsCard : Claim7 := { stood := { row := areaJoinsRow, standIns := [], harness := (true, "c6552154e0a3e6732b838360db59a818ea123fb3a731b339fc892d8ec9905493"), looks := false }, kinds := [], alts := [], laidByText := true, laidKinds := [.data, .pinned], laidTests := true, laidLooks := .later }
def AreaJoinsCardSaid : Prop := Claim7.holds Tryd.pinned (.plain (OpenSpec.ofChange areaJoinsSpec)) areaJoinsCard

/-- THE TIED CARD OF 'precinctlaw07.AreaBack'. -/
def areaBackCard : Claim7 := { stood := { row := areaBackRow, standIns := [], harness := (true, "c6552154e0a3e6732b838360db59a818ea123fb3a731b339fc892d8ec9905493"), looks := false }, kinds := [], alts := [], laidByText := true, laidKinds := [.data, .pinned], laidTests := true, laidLooks := .later }
def AreaBackCardSaid : Prop := Claim7.holds Tryd.pinned (.plain (OpenSpec.ofChange areaBackSpec)) areaBackCard

/-- THE TIED CARD OF 'precinctlaw07.AreaLost'. -/
def areaLostCard : Claim7 := { stood := { row := areaLostRow, standIns := [], harness := (true, "c6552154e0a3e6732b838360db59a818ea123fb3a731b339fc892d8ec9905493"), looks := false }, kinds := [], alts := [], laidByText := true, laidKinds := [.data, .pinned], laidTests := true, laidLooks := .later }
def AreaLostCardSaid : Prop := Claim7.holds Tryd.pinned (.plain (OpenSpec.ofChange areaLostSpec)) areaLostCard

/-- THE TIED CARD OF 'precinctlaw08.StreamNil'. -/
def streamNilCard : Claim7 := { stood := { row := streamNilRow, standIns := [], harness := (true, "c6552154e0a3e6732b838360db59a818ea123fb3a731b339fc892d8ec9905493"), looks := false }, kinds := [], alts := [], laidByText := true, laidKinds := [.data, .pinned], laidTests := true, laidLooks := .later }
def StreamNilCardSaid : Prop := Claim7.holds Tryd.pinned (.plain (OpenSpec.ofChange streamNilSpec)) streamNilCard

/-- THE TIED CARD OF 'precinctlaw08.StreamRooms'. -/
def streamRoomsCard : Claim7 := { stood := { row := streamRoomsRow, standIns := [], harness := (true, "c6552154e0a3e6732b838360db59a818ea123fb3a731b339fc892d8ec9905493"), looks := false }, kinds := [], alts := [], laidByText := true, laidKinds := [.data, .pinned], laidTests := true, laidLooks := .later }
def StreamRoomsCardSaid : Prop := Claim7.holds Tryd.pinned (.plain (OpenSpec.ofChange streamRoomsSpec)) streamRoomsCard

/-- THE TIED CARD OF 'precinctlaw08.StreamAny'. -/
def streamAnyCard : Claim7 := { stood := { row := streamAnyRow, standIns := [], harness := (true, "c6552154e0a3e6732b838360db59a818ea123fb3a731b339fc892d8ec9905493"), looks := false }, kinds := [], alts := [], laidByText := true, laidKinds := [.data, .pinned], laidTests := true, laidLooks := .later }
def StreamAnyCardSaid : Prop := Claim7.holds Tryd.pinned (.plain (OpenSpec.ofChange streamAnySpec)) streamAnyCard

/-- THE TIED CARD OF 'precinctlaw08.StreamLasts'. -/
def streamLastsCard : Claim7 := { stood := { row := streamLastsRow, standIns := [], harness := (true, "c6552154e0a3e6732b838360db59a818ea123fb3a731b339fc892d8ec9905493"), looks := false }, kinds := [], alts := [], laidByText := true, laidKinds := [.data, .pinned], laidTests := true, laidLooks := .later }
def StreamLastsCardSaid : Prop := Claim7.holds Tryd.pinned (.plain (OpenSpec.ofChange streamLastsSpec)) streamLastsCard

/-- THE TIED CARD OF 'precinctlaw08.StreamResets'. -/
def streamResetsCard : Claim7 := { stood := { row := streamResetsRow, standIns := [], harness := (true, "c6552154e0a3e6732b838360db59a818ea123fb3a731b339fc892d8ec9905493"), looks := false }, kinds := [], alts := [], laidByText := true, laidKinds := [.data, .pinned], laidTests := true, laidLooks := .later }
def StreamResetsCardSaid : Prop := Claim7.holds Tryd.pinned (.plain (OpenSpec.ofChange streamResetsSpec)) streamResetsCard

/-- THE SECOND FORM's CARD OF 'precinctlaw07.AreaParses'. -/
def areaParsesUptoCard : Claim7 := { stood := { row := areaParsesUptoRow, standIns := [], harness := (true, "c6552154e0a3e6732b838360db59a818ea123fb3a731b339fc892d8ec9905493"), looks := false }, kinds := [], alts := [], laidByText := true, laidKinds := [.data, .pinned], laidTests := true, laidLooks := .later }
def AreaParsesUptoCardSaid : Prop := Claim7.holds Tryd.pinned (.plain (OpenSpec.upto areaParsesSpec)) areaParsesUptoCard

/-- THE SECOND FORM's CARD OF 'precinctlaw07.AreaJoins'. -/
def areaJoinsUptoCard : Claim7 := { stood := { row := areaJoinsUptoRow, standIns := [], harness := (true, "c6552154e0a3e6732b838360db59a818ea123fb3a731b339fc892d8ec9905493"), looks := false }, kinds := [], alts := [], laidByText := true, laidKinds := [.data, .pinned], laidTests := true, laidLooks := .later }
def AreaJoinsUptoCardSaid : Prop := Claim7.holds Tryd.pinned (.plain (OpenSpec.upto areaJoinsSpec)) areaJoinsUptoCard

/-- THE SECOND FORM's CARD OF 'precinctlaw07.AreaBack'. -/
def areaBackUptoCard : Claim7 := { stood := { row := areaBackUptoRow, standIns := [], harness := (true, "c6552154e0a3e6732b838360db59a818ea123fb3a731b339fc892d8ec9905493"), looks := false }, kinds := [], alts := [], laidByText := true, laidKinds := [.data, .pinned], laidTests := true, laidLooks := .later }
def AreaBackUptoCardSaid : Prop := Claim7.holds Tryd.pinned (.plain (OpenSpec.upto areaBackSpec)) areaBackUptoCard

/-- THE SECOND FORM's CARD OF 'precinctlaw07.AreaLost'. -/
def areaLostUptoCard : Claim7 := { stood := { row := areaLostUptoRow, standIns := [], harness := (true, "c6552154e0a3e6732b838360db59a818ea123fb3a731b339fc892d8ec9905493"), looks := false }, kinds := [], alts := [], laidByText := true, laidKinds := [.data, .pinned], laidTests := true, laidLooks := .later }
def AreaLostUptoCardSaid : Prop := Claim7.holds Tryd.pinned (.plain (OpenSpec.upto areaLostSpec)) areaLostUptoCard

/-- THE SECOND FORM's CARD OF 'precinctlaw08.StreamNil'. -/
def streamNilUptoCard : Claim7 := { stood := { row := streamNilUptoRow, standIns := [], harness := (true, "c6552154e0a3e6732b838360db59a818ea123fb3a731b339fc892d8ec9905493"), looks := false }, kinds := [], alts := [], laidByText := true, laidKinds := [.data, .pinned], laidTests := true, laidLooks := .later }
def StreamNilUptoCardSaid : Prop := Claim7.holds Tryd.pinned (.plain (OpenSpec.upto streamNilSpec)) streamNilUptoCard

/-- THE SECOND FORM's CARD OF 'precinctlaw08.StreamRooms'. -/
def streamRoomsUptoCard : Claim7 := { stood := { row := streamRoomsUptoRow, standIns := [], harness := (true, "c6552154e0a3e6732b838360db59a818ea123fb3a731b339fc892d8ec9905493"), looks := false }, kinds := [], alts := [], laidByText := true, laidKinds := [.data, .pinned], laidTests := true, laidLooks := .later }
def StreamRoomsUptoCardSaid : Prop := Claim7.holds Tryd.pinned (.plain (OpenSpec.upto streamRoomsSpec)) streamRoomsUptoCard

/-- THE SECOND FORM's CARD OF 'precinctlaw08.StreamAny'. -/
def streamAnyUptoCard : Claim7 := { stood := { row := streamAnyUptoRow, standIns := [], harness := (true, "c6552154e0a3e6732b838360db59a818ea123fb3a731b339fc892d8ec9905493"), looks := false }, kinds := [], alts := [], laidByText := true, laidKinds := [.data, .pinned], laidTests := true, laidLooks := .later }
def StreamAnyUptoCardSaid : Prop := Claim7.holds Tryd.pinned (.plain (OpenSpec.upto streamAnySpec)) streamAnyUptoCard

/-- THE SECOND FORM's CARD OF 'precinctlaw08.StreamLasts'. -/
def streamLastsUptoCard : Claim7 := { stood := { row := streamLastsUptoRow, standIns := [], harness := (true, "c6552154e0a3e6732b838360db59a818ea123fb3a731b339fc892d8ec9905493"), looks := false }, kinds := [], alts := [], laidByText := true, laidKinds := [.data, .pinned], laidTests := true, laidLooks := .later }
def StreamLastsUptoCardSaid : Prop := Claim7.holds Tryd.pinned (.plain (OpenSpec.upto streamLastsSpec)) streamLastsUptoCard

/-- THE SECOND FORM's CARD OF 'precinctlaw08.StreamResets'. -/
def streamResetsUptoCard : Claim7 := { stood := { row := streamResetsUptoRow, standIns := [], harness := (true, "c6552154e0a3e6732b838360db59a818ea123fb3a731b339fc892d8ec9905493"), looks := false }, kinds := [], alts := [], laidByText := true, laidKinds := [.data, .pinned], laidTests := true, laidLooks := .later }
def StreamResetsUptoCardSaid : Prop := Claim7.holds Tryd.pinned (.plain (OpenSpec.upto streamResetsSpec)) streamResetsUptoCard
end Rows
end Go.Proofs.YtekpbpcfeopilaaDoor
