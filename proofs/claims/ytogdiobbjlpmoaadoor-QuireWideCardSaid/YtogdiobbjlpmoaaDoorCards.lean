/-
  DERIVED. GIVEN WITH THE SEED: THE CARDS: each row of YtogdiobbjlpmoaaDoorRows.lean that lists a variable, with what it lists TIED to the program's text (the seventh form; the later family's looks); each row that meets fmt, with fmt's text TOLD by the authors' own Lean function (tested against real Go, not proved from fmt's source: count such statements apart). THE CARD IS WHAT COUNTS. Prove the row's statement (the work); the ties are given (YtogdiobbjlpmoaaDoorTie.lean); close each card by the builder's one call (the guide's Derived/Test/ToyasCard.lean, 'card_holds'). Laid BY PROGRAM, IN A SANDBOX (cutbox-door.mjs). By AI agents, Wed Nov 11 2026. No macro, syntax, notation, axiom, sorry.
-/
import Derived.Test.YtogdiobbjlpmoaaDoorRows
import GoSem.ClaimSeven
namespace Go.Proofs.YtogdiobbjlpmoaaDoor
namespace Rows

/-- THE TIED CARD OF 'caliperlaw07.ValueDecodes'. -/
def valueDecodesCard : Claim7 := { stood := { row := valueDecodesRow, standIns := [], harness := (true, "67740e5f8200d13ce50034b76e267fe4aee4270ac87907a654273d6e70485dca"), looks := true }, kinds := [], alts := [], laidByText := true, laidKinds := [.data, .data], laidTests := true, laidLooks := .later }
def ValueDecodesCardSaid : Prop := Claim7.holds Tryd.pinned (.plain (OpenSpec.ofChange valueDecodesSpec)) valueDecodesCard

/-- THE TIED CARD OF 'caliperlaw07.ValueBetween'. -/
def valueBetweenCard : Claim7 := { stood := { row := valueBetweenRow, standIns := [], harness := (true, "67740e5f8200d13ce50034b76e267fe4aee4270ac87907a654273d6e70485dca"), looks := true }, kinds := [], alts := [], laidByText := true, laidKinds := [.data, .data], laidTests := true, laidLooks := .later }
def ValueBetweenCardSaid : Prop := Claim7.holds Tryd.pinned (.plain (OpenSpec.ofChange valueBetweenSpec)) valueBetweenCard

/-- THE TIED CARD OF 'caliperlaw07.ValueOrder'. -/
def valueOrderCard : Claim7 := { stood := { row := valueOrderRow, standIns := [], harness := (true, "67740e5f8200d13ce50034b76e267fe4aee4270ac87907a654273d6e70485dca"), looks := true }, kinds := [], alts := [], laidByText := true, laidKinds := [.data, .data], laidTests := true, laidLooks := .later }
def ValueOrderCardSaid : Prop := Claim7.holds Tryd.pinned (.plain (OpenSpec.ofChange valueOrderSpec)) valueOrderCard

/-- THE TIED CARD OF 'caliperlaw07.ValueKeys'. -/
def valueKeysCard : Claim7 := { stood := { row := valueKeysRow, standIns := [], harness := (true, "67740e5f8200d13ce50034b76e267fe4aee4270ac87907a654273d6e70485dca"), looks := true }, kinds := [], alts := [], laidByText := true, laidKinds := [.data, .data], laidTests := true, laidLooks := .later }
def ValueKeysCardSaid : Prop := Claim7.holds Tryd.pinned (.plain (OpenSpec.ofChange valueKeysSpec)) valueKeysCard

/-- THE TIED CARD OF 'caliperlaw07.ValueTurned'. -/
def valueTurnedCard : Claim7 := { stood := { row := valueTurnedRow, standIns := [], harness := (true, "67740e5f8200d13ce50034b76e267fe4aee4270ac87907a654273d6e70485dca"), looks := true }, kinds := [], alts := [], laidByText := true, laidKinds := [.data, .data], laidTests := true, laidLooks := .later }
def ValueTurnedCardSaid : Prop := Claim7.holds Tryd.pinned (.plain (OpenSpec.ofChange valueTurnedSpec)) valueTurnedCard

/-- THE TIED CARD OF 'caliperlaw07.ValueOrders'. -/
def valueOrdersCard : Claim7 := { stood := { row := valueOrdersRow, standIns := [], harness := (true, "67740e5f8200d13ce50034b76e267fe4aee4270ac87907a654273d6e70485dca"), looks := true }, kinds := [], alts := [], laidByText := true, laidKinds := [.data, .data], laidTests := true, laidLooks := .later }
def ValueOrdersCardSaid : Prop := Claim7.holds Tryd.pinned (.plain (OpenSpec.ofChange valueOrdersSpec)) valueOrdersCard

/-- THE TIED CARD OF 'caliperlaw07.ValueSpecials'. -/
def valueSpecialsCard : Claim7 := { stood := { row := valueSpecialsRow, standIns := [], harness := (true, "67740e5f8200d13ce50034b76e267fe4aee4270ac87907a654273d6e70485dca"), looks := true }, kinds := [], alts := [], laidByText := true, laidKinds := [.data, .data], laidTests := true, laidLooks := .later }
def ValueSpecialsCardSaid : Prop := Claim7.holds Tryd.pinned (.plain (OpenSpec.ofChange valueSpecialsSpec)) valueSpecialsCard

/-- THE TIED CARD OF 'caliperlaw07.ValueBack'. -/
def valueBackCard : Claim7 := { stood := { row := valueBackRow, standIns := [], harness := (true, "67740e5f8200d13ce50034b76e267fe4aee4270ac87907a654273d6e70485dca"), looks := true }, kinds := [], alts := [], laidByText := true, laidKinds := [.data, .data], laidTests := true, laidLooks := .later }
def ValueBackCardSaid : Prop := Claim7.holds Tryd.pinned (.plain (OpenSpec.ofChange valueBackSpec)) valueBackCard

/-- THE TIED CARD OF 'caliperlaw11.ShortFull'. -/
def shortFullCard : Claim7 := { stood := { row := shortFullRow, standIns := [], harness := (true, "67740e5f8200d13ce50034b76e267fe4aee4270ac87907a654273d6e70485dca"), looks := true }, kinds := [], alts := [], laidByText := true, laidKinds := [.data, .data], laidTests := true, laidLooks := .later }
def ShortFullCardSaid : Prop := Claim7.holds Tryd.pinned (.plain (OpenSpec.ofChange shortFullSpec)) shortFullCard

/-- THE TIED CARD OF 'caliperlaw11.ShortSigns'. -/
def shortSignsCard : Claim7 := { stood := { row := shortSignsRow, standIns := [], harness := (true, "67740e5f8200d13ce50034b76e267fe4aee4270ac87907a654273d6e70485dca"), looks := true }, kinds := [], alts := [], laidByText := true, laidKinds := [.data, .data], laidTests := true, laidLooks := .later }
def ShortSignsCardSaid : Prop := Claim7.holds Tryd.pinned (.plain (OpenSpec.ofChange shortSignsSpec)) shortSignsCard

/-- THE TIED CARD OF 'caliperlaw15.QuireOrder'. -/
def quireOrderCard : Claim7 := { stood := { row := quireOrderRow, standIns := [], harness := (true, "67740e5f8200d13ce50034b76e267fe4aee4270ac87907a654273d6e70485dca"), looks := true }, kinds := [], alts := [], laidByText := true, laidKinds := [.data, .data], laidTests := true, laidLooks := .later }
def QuireOrderCardSaid : Prop := Claim7.holds Tryd.pinned (.plain (OpenSpec.ofChange quireOrderSpec)) quireOrderCard

/-- THE TIED CARD OF 'caliperlaw15.QuireOne'. -/
def quireOneCard : Claim7 := { stood := { row := quireOneRow, standIns := [], harness := (true, "67740e5f8200d13ce50034b76e267fe4aee4270ac87907a654273d6e70485dca"), looks := true }, kinds := [], alts := [], laidByText := true, laidKinds := [.data, .data], laidTests := true, laidLooks := .later }
def QuireOneCardSaid : Prop := Claim7.holds Tryd.pinned (.plain (OpenSpec.ofChange quireOneSpec)) quireOneCard

/-- THE TIED CARD OF 'caliperlaw15.QuireNaR'. -/
def quireNaRCard : Claim7 := { stood := { row := quireNaRRow, standIns := [], harness := (true, "67740e5f8200d13ce50034b76e267fe4aee4270ac87907a654273d6e70485dca"), looks := true }, kinds := [], alts := [], laidByText := true, laidKinds := [.data, .data], laidTests := true, laidLooks := .later }
def QuireNaRCardSaid : Prop := Claim7.holds Tryd.pinned (.plain (OpenSpec.ofChange quireNaRSpec)) quireNaRCard

/-- THE TIED CARD OF 'caliperlaw15.QuireWide'. -/
def quireWideCard : Claim7 := { stood := { row := quireWideRow, standIns := [], harness := (true, "67740e5f8200d13ce50034b76e267fe4aee4270ac87907a654273d6e70485dca"), looks := true }, kinds := [], alts := [], laidByText := true, laidKinds := [.data, .data], laidTests := true, laidLooks := .later }
def QuireWideCardSaid : Prop := Claim7.holds Tryd.pinned (.plain (OpenSpec.ofChange quireWideSpec)) quireWideCard

/-- THE TIED CARD OF 'caliperlaw15.QuireTaken'. -/
def quireTakenCard : Claim7 := { stood := { row := quireTakenRow, standIns := [], harness := (true, "67740e5f8200d13ce50034b76e267fe4aee4270ac87907a654273d6e70485dca"), looks := true }, kinds := [], alts := [], laidByText := true, laidKinds := [.data, .data], laidTests := true, laidLooks := .later }
def QuireTakenCardSaid : Prop := Claim7.holds Tryd.pinned (.plain (OpenSpec.ofChange quireTakenSpec)) quireTakenCard

/-- THE TIED CARD OF 'caliperlaw15.QuireSwaps'. -/
def quireSwapsCard : Claim7 := { stood := { row := quireSwapsRow, standIns := [], harness := (true, "67740e5f8200d13ce50034b76e267fe4aee4270ac87907a654273d6e70485dca"), looks := true }, kinds := [], alts := [], laidByText := true, laidKinds := [.data, .data], laidTests := true, laidLooks := .later }
def QuireSwapsCardSaid : Prop := Claim7.holds Tryd.pinned (.plain (OpenSpec.ofChange quireSwapsSpec)) quireSwapsCard

/-- THE TIED CARD OF 'caliperlaw11.ShortBack'. -/
def shortBackCard : Claim7 := { stood := { row := shortBackRow, standIns := [], harness := (true, "67740e5f8200d13ce50034b76e267fe4aee4270ac87907a654273d6e70485dca"), looks := true }, kinds := [], alts := [], laidByText := true, laidKinds := [.data, .data], laidTests := true, laidLooks := .later }
def ShortBackCardSaid : Prop := Claim7.holds Tryd.pinned (.plain (OpenSpec.ofChange shortBackSpec)) shortBackCard

/-- THE TIED CARD OF 'caliperlaw11.ShortWholes'. -/
def shortWholesCard : Claim7 := { stood := { row := shortWholesRow, standIns := [], harness := (true, "67740e5f8200d13ce50034b76e267fe4aee4270ac87907a654273d6e70485dca"), looks := true }, kinds := [], alts := [], laidByText := true, laidKinds := [.data, .data], laidTests := true, laidLooks := .later }
def ShortWholesCardSaid : Prop := Claim7.holds Tryd.pinned (.plain (OpenSpec.ofChange shortWholesSpec)) shortWholesCard

/-- THE TIED CARD OF 'caliperlaw11.ShortPowers'. -/
def shortPowersCard : Claim7 := { stood := { row := shortPowersRow, standIns := [], harness := (true, "67740e5f8200d13ce50034b76e267fe4aee4270ac87907a654273d6e70485dca"), looks := true }, kinds := [], alts := [], laidByText := true, laidKinds := [.data, .data], laidTests := true, laidLooks := .later }
def ShortPowersCardSaid : Prop := Claim7.holds Tryd.pinned (.plain (OpenSpec.ofChange shortPowersSpec)) shortPowersCard

/-- THE TIED CARD OF 'caliperlaw15.QuireRounds'. -/
def quireRoundsCard : Claim7 := { stood := { row := quireRoundsRow, standIns := [], harness := (true, "67740e5f8200d13ce50034b76e267fe4aee4270ac87907a654273d6e70485dca"), looks := true }, kinds := [], alts := [], laidByText := true, laidKinds := [.data, .data], laidTests := true, laidLooks := .later }
def QuireRoundsCardSaid : Prop := Claim7.holds Tryd.pinned (.plain (OpenSpec.ofChange quireRoundsSpec)) quireRoundsCard

/-- THE TIED CARD OF 'caliperlaw11.ShortNearest'. -/
def shortNearestCard : Claim7 := { stood := { row := shortNearestRow, standIns := [], harness := (true, "67740e5f8200d13ce50034b76e267fe4aee4270ac87907a654273d6e70485dca"), looks := true }, kinds := [], alts := [], laidByText := true, laidKinds := [.data, .data], laidTests := true, laidLooks := .later }
def ShortNearestCardSaid : Prop := Claim7.holds Tryd.pinned (.plain (OpenSpec.ofChange shortNearestSpec)) shortNearestCard

/-- THE TIED CARD OF 'caliperlaw15.QuireLoads'. -/
def quireLoadsCard : Claim7 := { stood := { row := quireLoadsRow, standIns := [], harness := (true, "67740e5f8200d13ce50034b76e267fe4aee4270ac87907a654273d6e70485dca"), looks := true }, kinds := [], alts := [], laidByText := true, laidKinds := [.data, .data], laidTests := true, laidLooks := .later }
def QuireLoadsCardSaid : Prop := Claim7.holds Tryd.pinned (.plain (OpenSpec.ofChange quireLoadsSpec)) quireLoadsCard

/-- THE SECOND FORM's CARD OF 'caliperlaw07.ValueDecodes'. -/
def valueDecodesUptoCard : Claim7 := { stood := { row := valueDecodesUptoRow, standIns := [], harness := (true, "67740e5f8200d13ce50034b76e267fe4aee4270ac87907a654273d6e70485dca"), looks := true }, kinds := [], alts := [], laidByText := true, laidKinds := [.data, .data], laidTests := true, laidLooks := .later }
def ValueDecodesUptoCardSaid : Prop := Claim7.holds Tryd.pinned (.plain (OpenSpec.upto valueDecodesSpec)) valueDecodesUptoCard

/-- THE SECOND FORM's CARD OF 'caliperlaw07.ValueBetween'. -/
def valueBetweenUptoCard : Claim7 := { stood := { row := valueBetweenUptoRow, standIns := [], harness := (true, "67740e5f8200d13ce50034b76e267fe4aee4270ac87907a654273d6e70485dca"), looks := true }, kinds := [], alts := [], laidByText := true, laidKinds := [.data, .data], laidTests := true, laidLooks := .later }
def ValueBetweenUptoCardSaid : Prop := Claim7.holds Tryd.pinned (.plain (OpenSpec.upto valueBetweenSpec)) valueBetweenUptoCard

/-- THE SECOND FORM's CARD OF 'caliperlaw07.ValueOrder'. -/
def valueOrderUptoCard : Claim7 := { stood := { row := valueOrderUptoRow, standIns := [], harness := (true, "67740e5f8200d13ce50034b76e267fe4aee4270ac87907a654273d6e70485dca"), looks := true }, kinds := [], alts := [], laidByText := true, laidKinds := [.data, .data], laidTests := true, laidLooks := .later }
def ValueOrderUptoCardSaid : Prop := Claim7.holds Tryd.pinned (.plain (OpenSpec.upto valueOrderSpec)) valueOrderUptoCard

/-- THE SECOND FORM's CARD OF 'caliperlaw07.ValueKeys'. -/
def valueKeysUptoCard : Claim7 := { stood := { row := valueKeysUptoRow, standIns := [], harness := (true, "67740e5f8200d13ce50034b76e267fe4aee4270ac87907a654273d6e70485dca"), looks := true }, kinds := [], alts := [], laidByText := true, laidKinds := [.data, .data], laidTests := true, laidLooks := .later }
def ValueKeysUptoCardSaid : Prop := Claim7.holds Tryd.pinned (.plain (OpenSpec.upto valueKeysSpec)) valueKeysUptoCard

/-- THE SECOND FORM's CARD OF 'caliperlaw07.ValueTurned'. -/
def valueTurnedUptoCard : Claim7 := { stood := { row := valueTurnedUptoRow, standIns := [], harness := (true, "67740e5f8200d13ce50034b76e267fe4aee4270ac87907a654273d6e70485dca"), looks := true }, kinds := [], alts := [], laidByText := true, laidKinds := [.data, .data], laidTests := true, laidLooks := .later }
def ValueTurnedUptoCardSaid : Prop := Claim7.holds Tryd.pinned (.plain (OpenSpec.upto valueTurnedSpec)) valueTurnedUptoCard

/-- THE SECOND FORM's CARD OF 'caliperlaw07.ValueOrders'. -/
def valueOrdersUptoCard : Claim7 := { stood := { row := valueOrdersUptoRow, standIns := [], harness := (true, "67740e5f8200d13ce50034b76e267fe4aee4270ac87907a654273d6e70485dca"), looks := true }, kinds := [], alts := [], laidByText := true, laidKinds := [.data, .data], laidTests := true, laidLooks := .later }
def ValueOrdersUptoCardSaid : Prop := Claim7.holds Tryd.pinned (.plain (OpenSpec.upto valueOrdersSpec)) valueOrdersUptoCard

/-- THE SECOND FORM's CARD OF 'caliperlaw07.ValueSpecials'. -/
def valueSpecialsUptoCard : Claim7 := { stood := { row := valueSpecialsUptoRow, standIns := [], harness := (true, "67740e5f8200d13ce50034b76e267fe4aee4270ac87907a654273d6e70485dca"), looks := true }, kinds := [], alts := [], laidByText := true, laidKinds := [.data, .data], laidTests := true, laidLooks := .later }
def ValueSpecialsUptoCardSaid : Prop := Claim7.holds Tryd.pinned (.plain (OpenSpec.upto valueSpecialsSpec)) valueSpecialsUptoCard

/-- THE SECOND FORM's CARD OF 'caliperlaw07.ValueBack'. -/
def valueBackUptoCard : Claim7 := { stood := { row := valueBackUptoRow, standIns := [], harness := (true, "67740e5f8200d13ce50034b76e267fe4aee4270ac87907a654273d6e70485dca"), looks := true }, kinds := [], alts := [], laidByText := true, laidKinds := [.data, .data], laidTests := true, laidLooks := .later }
def ValueBackUptoCardSaid : Prop := Claim7.holds Tryd.pinned (.plain (OpenSpec.upto valueBackSpec)) valueBackUptoCard

/-- THE SECOND FORM's CARD OF 'caliperlaw11.ShortFull'. -/
def shortFullUptoCard : Claim7 := { stood := { row := shortFullUptoRow, standIns := [], harness := (true, "67740e5f8200d13ce50034b76e267fe4aee4270ac87907a654273d6e70485dca"), looks := true }, kinds := [], alts := [], laidByText := true, laidKinds := [.data, .data], laidTests := true, laidLooks := .later }
def ShortFullUptoCardSaid : Prop := Claim7.holds Tryd.pinned (.plain (OpenSpec.upto shortFullSpec)) shortFullUptoCard

/-- THE SECOND FORM's CARD OF 'caliperlaw11.ShortSigns'. -/
def shortSignsUptoCard : Claim7 := { stood := { row := shortSignsUptoRow, standIns := [], harness := (true, "67740e5f8200d13ce50034b76e267fe4aee4270ac87907a654273d6e70485dca"), looks := true }, kinds := [], alts := [], laidByText := true, laidKinds := [.data, .data], laidTests := true, laidLooks := .later }
def ShortSignsUptoCardSaid : Prop := Claim7.holds Tryd.pinned (.plain (OpenSpec.upto shortSignsSpec)) shortSignsUptoCard

/-- THE SECOND FORM's CARD OF 'caliperlaw15.QuireOrder'. -/
def quireOrderUptoCard : Claim7 := { stood := { row := quireOrderUptoRow, standIns := [], harness := (true, "67740e5f8200d13ce50034b76e267fe4aee4270ac87907a654273d6e70485dca"), looks := true }, kinds := [], alts := [], laidByText := true, laidKinds := [.data, .data], laidTests := true, laidLooks := .later }
def QuireOrderUptoCardSaid : Prop := Claim7.holds Tryd.pinned (.plain (OpenSpec.upto quireOrderSpec)) quireOrderUptoCard

/-- THE SECOND FORM's CARD OF 'caliperlaw15.QuireOne'. -/
def quireOneUptoCard : Claim7 := { stood := { row := quireOneUptoRow, standIns := [], harness := (true, "67740e5f8200d13ce50034b76e267fe4aee4270ac87907a654273d6e70485dca"), looks := true }, kinds := [], alts := [], laidByText := true, laidKinds := [.data, .data], laidTests := true, laidLooks := .later }
def QuireOneUptoCardSaid : Prop := Claim7.holds Tryd.pinned (.plain (OpenSpec.upto quireOneSpec)) quireOneUptoCard

/-- THE SECOND FORM's CARD OF 'caliperlaw15.QuireNaR'. -/
def quireNaRUptoCard : Claim7 := { stood := { row := quireNaRUptoRow, standIns := [], harness := (true, "67740e5f8200d13ce50034b76e267fe4aee4270ac87907a654273d6e70485dca"), looks := true }, kinds := [], alts := [], laidByText := true, laidKinds := [.data, .data], laidTests := true, laidLooks := .later }
def QuireNaRUptoCardSaid : Prop := Claim7.holds Tryd.pinned (.plain (OpenSpec.upto quireNaRSpec)) quireNaRUptoCard

/-- THE SECOND FORM's CARD OF 'caliperlaw15.QuireWide'. -/
def quireWideUptoCard : Claim7 := { stood := { row := quireWideUptoRow, standIns := [], harness := (true, "67740e5f8200d13ce50034b76e267fe4aee4270ac87907a654273d6e70485dca"), looks := true }, kinds := [], alts := [], laidByText := true, laidKinds := [.data, .data], laidTests := true, laidLooks := .later }
def QuireWideUptoCardSaid : Prop := Claim7.holds Tryd.pinned (.plain (OpenSpec.upto quireWideSpec)) quireWideUptoCard

/-- THE SECOND FORM's CARD OF 'caliperlaw15.QuireTaken'. -/
def quireTakenUptoCard : Claim7 := { stood := { row := quireTakenUptoRow, standIns := [], harness := (true, "67740e5f8200d13ce50034b76e267fe4aee4270ac87907a654273d6e70485dca"), looks := true }, kinds := [], alts := [], laidByText := true, laidKinds := [.data, .data], laidTests := true, laidLooks := .later }
def QuireTakenUptoCardSaid : Prop := Claim7.holds Tryd.pinned (.plain (OpenSpec.upto quireTakenSpec)) quireTakenUptoCard

/-- THE SECOND FORM's CARD OF 'caliperlaw15.QuireSwaps'. -/
def quireSwapsUptoCard : Claim7 := { stood := { row := quireSwapsUptoRow, standIns := [], harness := (true, "67740e5f8200d13ce50034b76e267fe4aee4270ac87907a654273d6e70485dca"), looks := true }, kinds := [], alts := [], laidByText := true, laidKinds := [.data, .data], laidTests := true, laidLooks := .later }
def QuireSwapsUptoCardSaid : Prop := Claim7.holds Tryd.pinned (.plain (OpenSpec.upto quireSwapsSpec)) quireSwapsUptoCard

/-- THE SECOND FORM's CARD OF 'caliperlaw11.ShortBack'. -/
def shortBackUptoCard : Claim7 := { stood := { row := shortBackUptoRow, standIns := [], harness := (true, "67740e5f8200d13ce50034b76e267fe4aee4270ac87907a654273d6e70485dca"), looks := true }, kinds := [], alts := [], laidByText := true, laidKinds := [.data, .data], laidTests := true, laidLooks := .later }
def ShortBackUptoCardSaid : Prop := Claim7.holds Tryd.pinned (.plain (OpenSpec.upto shortBackSpec)) shortBackUptoCard

/-- THE SECOND FORM's CARD OF 'caliperlaw11.ShortWholes'. -/
def shortWholesUptoCard : Claim7 := { stood := { row := shortWholesUptoRow, standIns := [], harness := (true, "67740e5f8200d13ce50034b76e267fe4aee4270ac87907a654273d6e70485dca"), looks := true }, kinds := [], alts := [], laidByText := true, laidKinds := [.data, .data], laidTests := true, laidLooks := .later }
def ShortWholesUptoCardSaid : Prop := Claim7.holds Tryd.pinned (.plain (OpenSpec.upto shortWholesSpec)) shortWholesUptoCard

/-- THE SECOND FORM's CARD OF 'caliperlaw11.ShortPowers'. -/
def shortPowersUptoCard : Claim7 := { stood := { row := shortPowersUptoRow, standIns := [], harness := (true, "67740e5f8200d13ce50034b76e267fe4aee4270ac87907a654273d6e70485dca"), looks := true }, kinds := [], alts := [], laidByText := true, laidKinds := [.data, .data], laidTests := true, laidLooks := .later }
def ShortPowersUptoCardSaid : Prop := Claim7.holds Tryd.pinned (.plain (OpenSpec.upto shortPowersSpec)) shortPowersUptoCard

/-- THE SECOND FORM's CARD OF 'caliperlaw15.QuireRounds'. -/
def quireRoundsUptoCard : Claim7 := { stood := { row := quireRoundsUptoRow, standIns := [], harness := (true, "67740e5f8200d13ce50034b76e267fe4aee4270ac87907a654273d6e70485dca"), looks := true }, kinds := [], alts := [], laidByText := true, laidKinds := [.data, .data], laidTests := true, laidLooks := .later }
def QuireRoundsUptoCardSaid : Prop := Claim7.holds Tryd.pinned (.plain (OpenSpec.upto quireRoundsSpec)) quireRoundsUptoCard

/-- THE SECOND FORM's CARD OF 'caliperlaw11.ShortNearest'. -/
def shortNearestUptoCard : Claim7 := { stood := { row := shortNearestUptoRow, standIns := [], harness := (true, "67740e5f8200d13ce50034b76e267fe4aee4270ac87907a654273d6e70485dca"), looks := true }, kinds := [], alts := [], laidByText := true, laidKinds := [.data, .data], laidTests := true, laidLooks := .later }
def ShortNearestUptoCardSaid : Prop := Claim7.holds Tryd.pinned (.plain (OpenSpec.upto shortNearestSpec)) shortNearestUptoCard

/-- THE SECOND FORM's CARD OF 'caliperlaw15.QuireLoads'. -/
def quireLoadsUptoCard : Claim7 := { stood := { row := quireLoadsUptoRow, standIns := [], harness := (true, "67740e5f8200d13ce50034b76e267fe4aee4270ac87907a654273d6e70485dca"), looks := true }, kinds := [], alts := [], laidByText := true, laidKinds := [.data, .data], laidTests := true, laidLooks := .later }
def QuireLoadsUptoCardSaid : Prop := Claim7.holds Tryd.pinned (.plain (OpenSpec.upto quireLoadsSpec)) quireLoadsUptoCard
end Rows
end Go.Proofs.YtogdiobbjlpmoaaDoor
