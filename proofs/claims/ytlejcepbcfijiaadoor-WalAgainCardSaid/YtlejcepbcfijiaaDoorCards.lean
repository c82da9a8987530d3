/-
  DERIVED. GIVEN WITH THE SEED: THE CARDS: each row of YtlejcepbcfijiaaDoorRows.lean that lists a variable, with what it lists TIED to the program's text (the seventh form; the later family's looks); each row that meets fmt, with fmt's text TOLD by the authors' own Lean function (tested against real Go, not proved from fmt's source: count such statements apart). THE CARD IS WHAT COUNTS. Prove the row's statement (the work); the ties are given (YtlejcepbcfijiaaDoorTie.lean); close each card by the builder's one call (the guide's Derived/Test/ToyasCard.lean, 'card_holds'). Laid BY PROGRAM, IN A SANDBOX (cutbox-door.mjs). By AI agents, Wed Nov 11 2026. No macro, syntax, notation, axiom, sorry.
-/
import Derived.Test.YtlejcepbcfijiaaDoorRows
import GoSem.ClaimSeven
namespace Go.Proofs.YtlejcepbcfijiaaDoor
namespace Rows

/-- THE TIED CARD OF 'lapstonelaw12.MetaKeeps'. -/
def metaKeepsCard : Claim7 := { stood := { row := metaKeepsRow, standIns := [], harness := (true, "81c99795c231b578998310e6fb759dcd1c4245855c1a86f550019768496620da"), looks := false }, kinds := [], alts := [], laidByText := true, laidKinds := [.data], laidTests := true, laidLooks := .later }
def MetaKeepsCardSaid : Prop := Claim7.holds Tryd.pinned (.plain (OpenSpec.ofChange metaKeepsSpec)) metaKeepsCard

/-- THE TIED CARD OF 'lapstonelaw12.MetaWrites'. -/
def metaWritesCard : Claim7 := { stood := { row := metaWritesRow, standIns := [], harness := (true, "81c99795c231b578998310e6fb759dcd1c4245855c1a86f550019768496620da"), looks := false }, kinds := [], alts := [], laidByText := true, laidKinds := [.data], laidTests := true, laidLooks := .later }
def MetaWritesCardSaid : Prop := Claim7.holds Tryd.pinned (.plain (OpenSpec.ofChange metaWritesSpec)) metaWritesCard

/-- THE TIED CARD OF 'lapstonelaw12.MetaPlays'. -/
def metaPlaysCard : Claim7 := { stood := { row := metaPlaysRow, standIns := [], harness := (true, "81c99795c231b578998310e6fb759dcd1c4245855c1a86f550019768496620da"), looks := false }, kinds := [], alts := [], laidByText := true, laidKinds := [.data], laidTests := true, laidLooks := .later }
def MetaPlaysCardSaid : Prop := Claim7.holds Tryd.pinned (.plain (OpenSpec.ofChange metaPlaysSpec)) metaPlaysCard

/-- THE TIED CARD OF 'lapstonelaw08.WalPlaces'. -/
def walPlacesCard : Claim7 := { stood := { row := walPlacesRow, standIns := [], harness := (true, "81c99795c231b578998310e6fb759dcd1c4245855c1a86f550019768496620da"), looks := false }, kinds := [], alts := [], laidByText := true, laidKinds := [.data], laidTests := true, laidLooks := .later }
def WalPlacesCardSaid : Prop := Claim7.holds Tryd.pinned (.plain (OpenSpec.ofChange walPlacesSpec)) walPlacesCard

/-- THE TIED CARD OF 'lapstonelaw08.WalAgain'. -/
def walAgainCard : Claim7 := { stood := { row := walAgainRow, standIns := [], harness := (true, "81c99795c231b578998310e6fb759dcd1c4245855c1a86f550019768496620da"), looks := false }, kinds := [], alts := [], laidByText := true, laidKinds := [.data], laidTests := true, laidLooks := .later }
def WalAgainCardSaid : Prop := Claim7.holds Tryd.pinned (.plain (OpenSpec.ofChange walAgainSpec)) walAgainCard

/-- THE SECOND FORM's CARD OF 'lapstonelaw12.MetaKeeps'. -/
def metaKeepsUptoCard : Claim7 := { stood := { row := metaKeepsUptoRow, standIns := [], harness := (true, "81c99795c231b578998310e6fb759dcd1c4245855c1a86f550019768496620da"), looks := false }, kinds := [], alts := [], laidByText := true, laidKinds := [.data], laidTests := true, laidLooks := .later }
def MetaKeepsUptoCardSaid : Prop := Claim7.holds Tryd.pinned (.plain (OpenSpec.upto metaKeepsSpec)) metaKeepsUptoCard

/-- THE SECOND FORM's CARD OF 'lapstonelaw12.MetaWrites'. -/
def metaWritesUptoCard : Claim7 := { stood := { row := metaWritesUptoRow, standIns := [], harness := (true, "81c99795c231b578998310e6fb759dcd1c4245855c1a86f550019768496620da"), looks := false }, kinds := [], alts := [], laidByText := true, laidKinds := [.data], laidTests := true, laidLooks := .later }
def MetaWritesUptoCardSaid : Prop := Claim7.holds Tryd.pinned (.plain (OpenSpec.upto metaWritesSpec)) metaWritesUptoCard

/-- THE SECOND FORM's CARD OF 'lapstonelaw12.MetaPlays'. -/
def metaPlaysUptoCard : Claim7 := { stood := { row := metaPlaysUptoRow, standIns := [], harness := (true, "81c99795c231b578998310e6fb759dcd1c4245855c1a86f550019768496620da"), looks := false }, kinds := [], alts := [], laidByText := true, laidKinds := [.data], laidTests := true, laidLooks := .later }
def MetaPlaysUptoCardSaid : Prop := Claim7.holds Tryd.pinned (.plain (OpenSpec.upto metaPlaysSpec)) metaPlaysUptoCard

/-- THE SECOND FORM's CARD OF 'lapstonelaw08.WalPlaces'. -/
def walPlacesUptoCard : Claim7 := { stood := { row := walPlacesUptoRow, standIns := [], harness := (true, "81c99795c231b578998310e6fb759dcd1c4245855c1a86f550019768496620da"), looks := false }, kinds := [], alts := [], laidByText := true, laidKinds := [.data], laidTests := true, laidLooks := .later }
def WalPlacesUptoCardSaid : Prop := Claim7.holds Tryd.pinned (.plain (OpenSpec.upto walPlacesSpec)) walPlacesUptoCard

/-- THE SECOND FORM's CARD OF 'lapstonelaw08.WalAgain'. -/
def walAgainUptoCard : Claim7 := { stood := { row := walAgainUptoRow, standIns := [], harness := (true, "81c99795c231b578998310e6fb759dcd1c4245855c1a86f550019768496620da"), looks := false }, kinds := [], alts := [], laidByText := true, laidKinds := [.data], laidTests := true, laidLooks := .later }
def WalAgainUptoCardSaid : Prop := Claim7.holds Tryd.pinned (.plain (OpenSpec.upto walAgainSpec)) walAgainUptoCard
end Rows
end Go.Proofs.YtlejcepbcfijiaaDoor
