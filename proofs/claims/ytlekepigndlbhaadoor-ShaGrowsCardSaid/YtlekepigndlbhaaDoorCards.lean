/-
  DERIVED. GIVEN WITH THE SEED: THE CARDS: each row of YtlekepigndlbhaaDoorRows.lean that lists a variable, with what it lists TIED to the program's text (the seventh form; the later family's looks); each row that meets fmt, with fmt's text TOLD by the authors' own Lean function (tested against real Go, not proved from fmt's source: count such statements apart). THE CARD IS WHAT COUNTS. Prove the row's statement (the work); the ties are given (YtlekepigndlbhaaDoorTie.lean); close each card by the builder's one call (the guide's Derived/Test/ToyasCard.lean, 'card_holds'). Laid BY PROGRAM, IN A SANDBOX (cutbox-door.mjs). By AI agents, Wed Nov 11 2026. No macro, syntax, notation, axiom, sorry.
-/
import Derived.Test.YtlekepigndlbhaaDoorRows
import GoSem.ClaimSeven
namespace Go.Proofs.YtlekepigndlbhaaDoor
namespace Rows

/-- THE TIED CARD OF 'thimblelaw03.ShaDigests'. -/
def shaDigestsCard : Claim7 := { stood := { row := shaDigestsRow, standIns := [], harness := (true, "db6872363373f517541284438591d365302df0d4ebeaca0c5c082e31097fc13c"), looks := false }, kinds := [], alts := [], laidByText := true, laidKinds := [.data], laidTests := true, laidLooks := .later }
def ShaDigestsCardSaid : Prop := Claim7.holds Tryd.pinned (.plain (OpenSpec.ofChange shaDigestsSpec)) shaDigestsCard

/-- THE TIED CARD OF 'thimblelaw03.ShaParts'. -/
def shaPartsCard : Claim7 := { stood := { row := shaPartsRow, standIns := [], harness := (true, "db6872363373f517541284438591d365302df0d4ebeaca0c5c082e31097fc13c"), looks := false }, kinds := [], alts := [], laidByText := true, laidKinds := [.data], laidTests := true, laidLooks := .later }
def ShaPartsCardSaid : Prop := Claim7.holds Tryd.pinned (.plain (OpenSpec.ofChange shaPartsSpec)) shaPartsCard

/-- THE TIED CARD OF 'thimblelaw03.ShaGrows'. -/
def shaGrowsCard : Claim7 := { stood := { row := shaGrowsRow, standIns := [], harness := (true, "db6872363373f517541284438591d365302df0d4ebeaca0c5c082e31097fc13c"), looks := false }, kinds := [], alts := [], laidByText := true, laidKinds := [.data], laidTests := true, laidLooks := .later }
def ShaGrowsCardSaid : Prop := Claim7.holds Tryd.pinned (.plain (OpenSpec.ofChange shaGrowsSpec)) shaGrowsCard

/-- THE TIED CARD OF 'thimblelaw03.ShaGoesOn'. -/
def shaGoesOnCard : Claim7 := { stood := { row := shaGoesOnRow, standIns := [], harness := (true, "db6872363373f517541284438591d365302df0d4ebeaca0c5c082e31097fc13c"), looks := false }, kinds := [], alts := [], laidByText := true, laidKinds := [.data], laidTests := true, laidLooks := .later }
def ShaGoesOnCardSaid : Prop := Claim7.holds Tryd.pinned (.plain (OpenSpec.ofChange shaGoesOnSpec)) shaGoesOnCard

/-- THE TIED CARD OF 'thimblelaw03.ShaKnown'. -/
def shaKnownCard : Claim7 := { stood := { row := shaKnownRow, standIns := [], harness := (true, "db6872363373f517541284438591d365302df0d4ebeaca0c5c082e31097fc13c"), looks := false }, kinds := [], alts := [], laidByText := true, laidKinds := [.data], laidTests := true, laidLooks := .later }
def ShaKnownCardSaid : Prop := Claim7.holds Tryd.pinned (.plain (OpenSpec.ofChange shaKnownSpec)) shaKnownCard

/-- THE TIED CARD OF 'thimblelaw04.MacDigests'. -/
def macDigestsCard : Claim7 := { stood := { row := macDigestsRow, standIns := [], harness := (true, "db6872363373f517541284438591d365302df0d4ebeaca0c5c082e31097fc13c"), looks := false }, kinds := [], alts := [], laidByText := true, laidKinds := [.data], laidTests := true, laidLooks := .later }
def MacDigestsCardSaid : Prop := Claim7.holds Tryd.pinned (.plain (OpenSpec.ofChange macDigestsSpec)) macDigestsCard

/-- THE TIED CARD OF 'thimblelaw04.MacPads'. -/
def macPadsCard : Claim7 := { stood := { row := macPadsRow, standIns := [], harness := (true, "db6872363373f517541284438591d365302df0d4ebeaca0c5c082e31097fc13c"), looks := false }, kinds := [], alts := [], laidByText := true, laidKinds := [.data], laidTests := true, laidLooks := .later }
def MacPadsCardSaid : Prop := Claim7.holds Tryd.pinned (.plain (OpenSpec.ofChange macPadsSpec)) macPadsCard

/-- THE TIED CARD OF 'thimblelaw04.MacSame'. -/
def macSameCard : Claim7 := { stood := { row := macSameRow, standIns := [], harness := (true, "db6872363373f517541284438591d365302df0d4ebeaca0c5c082e31097fc13c"), looks := false }, kinds := [], alts := [], laidByText := true, laidKinds := [.data], laidTests := true, laidLooks := .later }
def MacSameCardSaid : Prop := Claim7.holds Tryd.pinned (.plain (OpenSpec.ofChange macSameSpec)) macSameCard

/-- THE TIED CARD OF 'thimblelaw04.MacTurned'. -/
def macTurnedCard : Claim7 := { stood := { row := macTurnedRow, standIns := [], harness := (true, "db6872363373f517541284438591d365302df0d4ebeaca0c5c082e31097fc13c"), looks := false }, kinds := [], alts := [], laidByText := true, laidKinds := [.data], laidTests := true, laidLooks := .later }
def MacTurnedCardSaid : Prop := Claim7.holds Tryd.pinned (.plain (OpenSpec.ofChange macTurnedSpec)) macTurnedCard

/-- THE TIED CARD OF 'thimblelaw04.MacKeys'. -/
def macKeysCard : Claim7 := { stood := { row := macKeysRow, standIns := [], harness := (true, "db6872363373f517541284438591d365302df0d4ebeaca0c5c082e31097fc13c"), looks := false }, kinds := [], alts := [], laidByText := true, laidKinds := [.data], laidTests := true, laidLooks := .later }
def MacKeysCardSaid : Prop := Claim7.holds Tryd.pinned (.plain (OpenSpec.ofChange macKeysSpec)) macKeysCard

/-- THE SECOND FORM's CARD OF 'thimblelaw03.ShaDigests'. -/
def shaDigestsUptoCard : Claim7 := { stood := { row := shaDigestsUptoRow, standIns := [], harness := (true, "db6872363373f517541284438591d365302df0d4ebeaca0c5c082e31097fc13c"), looks := false }, kinds := [], alts := [], laidByText := true, laidKinds := [.data], laidTests := true, laidLooks := .later }
def ShaDigestsUptoCardSaid : Prop := Claim7.holds Tryd.pinned (.plain (OpenSpec.upto shaDigestsSpec)) shaDigestsUptoCard

/-- THE SECOND FORM's CARD OF 'thimblelaw03.ShaParts'. -/
def shaPartsUptoCard : Claim7 := { stood := { row := shaPartsUptoRow, standIns := [], harness := (true, "db6872363373f517541284438591d365302df0d4ebeaca0c5c082e31097fc13c"), looks := false }, kinds := [], alts := [], laidByText := true, laidKinds := [.data], laidTests := true, laidLooks := .later }
def ShaPartsUptoCardSaid : Prop := Claim7.holds Tryd.pinned (.plain (OpenSpec.upto shaPartsSpec)) shaPartsUptoCard

/-- THE SECOND FORM's CARD OF 'thimblelaw03.ShaGrows'. -/
def shaGrowsUptoCard : Claim7 := { stood := { row := shaGrowsUptoRow, standIns := [], harness := (true, "db6872363373f517541284438591d365302df0d4ebeaca0c5c082e31097fc13c"), looks := false }, kinds := [], alts := [], laidByText := true, laidKinds := [.data], laidTests := true, laidLooks := .later }
def ShaGrowsUptoCardSaid : Prop := Claim7.holds Tryd.pinned (.plain (OpenSpec.upto shaGrowsSpec)) shaGrowsUptoCard

/-- THE SECOND FORM's CARD OF 'thimblelaw03.ShaGoesOn'. -/
def shaGoesOnUptoCard : Claim7 := { stood := { row := shaGoesOnUptoRow, standIns := [], harness := (true, "db6872363373f517541284438591d365302df0d4ebeaca0c5c082e31097fc13c"), looks := false }, kinds := [], alts := [], laidByText := true, laidKinds := [.data], laidTests := true, laidLooks := .later }
def ShaGoesOnUptoCardSaid : Prop := Claim7.holds Tryd.pinned (.plain (OpenSpec.upto shaGoesOnSpec)) shaGoesOnUptoCard

/-- THE SECOND FORM's CARD OF 'thimblelaw03.ShaKnown'. -/
def shaKnownUptoCard : Claim7 := { stood := { row := shaKnownUptoRow, standIns := [], harness := (true, "db6872363373f517541284438591d365302df0d4ebeaca0c5c082e31097fc13c"), looks := false }, kinds := [], alts := [], laidByText := true, laidKinds := [.data], laidTests := true, laidLooks := .later }
def ShaKnownUptoCardSaid : Prop := Claim7.holds Tryd.pinned (.plain (OpenSpec.upto shaKnownSpec)) shaKnownUptoCard

/-- THE SECOND FORM's CARD OF 'thimblelaw04.MacDigests'. -/
def macDigestsUptoCard : Claim7 := { stood := { row := macDigestsUptoRow, standIns := [], harness := (true, "db6872363373f517541284438591d365302df0d4ebeaca0c5c082e31097fc13c"), looks := false }, kinds := [], alts := [], laidByText := true, laidKinds := [.data], laidTests := true, laidLooks := .later }
def MacDigestsUptoCardSaid : Prop := Claim7.holds Tryd.pinned (.plain (OpenSpec.upto macDigestsSpec)) macDigestsUptoCard

/-- THE SECOND FORM's CARD OF 'thimblelaw04.MacPads'. -/
def macPadsUptoCard : Claim7 := { stood := { row := macPadsUptoRow, standIns := [], harness := (true, "db6872363373f517541284438591d365302df0d4ebeaca0c5c082e31097fc13c"), looks := false }, kinds := [], alts := [], laidByText := true, laidKinds := [.data], laidTests := true, laidLooks := .later }
def MacPadsUptoCardSaid : Prop := Claim7.holds Tryd.pinned (.plain (OpenSpec.upto macPadsSpec)) macPadsUptoCard

/-- THE SECOND FORM's CARD OF 'thimblelaw04.MacSame'. -/
def macSameUptoCard : Claim7 := { stood := { row := macSameUptoRow, standIns := [], harness := (true, "db6872363373f517541284438591d365302df0d4ebeaca0c5c082e31097fc13c"), looks := false }, kinds := [], alts := [], laidByText := true, laidKinds := [.data], laidTests := true, laidLooks := .later }
def MacSameUptoCardSaid : Prop := Claim7.holds Tryd.pinned (.plain (OpenSpec.upto macSameSpec)) macSameUptoCard

/-- THE SECOND FORM's CARD OF 'thimblelaw04.MacTurned'. -/
def macTurnedUptoCard : Claim7 := { stood := { row := macTurnedUptoRow, standIns := [], harness := (true, "db6872363373f517541284438591d365302df0d4ebeaca0c5c082e31097fc13c"), looks := false }, kinds := [], alts := [], laidByText := true, laidKinds := [.data], laidTests := true, laidLooks := .later }
def MacTurnedUptoCardSaid : Prop := Claim7.holds Tryd.pinned (.plain (OpenSpec.upto macTurnedSpec)) macTurnedUptoCard

/-- THE SECOND FORM's CARD OF 'thimblelaw04.MacKeys'. -/
def macKeysUptoCard : Claim7 := { stood := { row := macKeysUptoRow, standIns := [], harness := (true, "db6872363373f517541284438591d365302df0d4ebeaca0c5c082e31097fc13c"), looks := false }, kinds := [], alts := [], laidByText := true, laidKinds := [.data], laidTests := true, laidLooks := .later }
def MacKeysUptoCardSaid : Prop := Claim7.holds Tryd.pinned (.plain (OpenSpec.upto macKeysSpec)) macKeysUptoCard
end Rows
end Go.Proofs.YtlekepigndlbhaaDoor
