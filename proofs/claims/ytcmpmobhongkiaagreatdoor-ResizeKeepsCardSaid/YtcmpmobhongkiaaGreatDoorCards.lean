/-
  DERIVED. GIVEN WITH THE SEED: THE CARDS: each row of YtcmpmobhongkiaaGreatDoorRows.lean that lists a variable, with what it lists TIED to the program's text (the seventh form; the later family's looks); each row that meets fmt, with fmt's text TOLD by the authors' own Lean function (tested against real Go, not proved from fmt's source: count such statements apart). THE CARD IS WHAT COUNTS. Prove the row's statement (the work); the ties are given (YtcmpmobhongkiaaGreatDoorTie.lean); close each card by the builder's one call (the guide's Derived/Test/ToyasCard.lean, 'card_holds'). Laid BY PROGRAM, IN A SANDBOX (cutbox-door.mjs). By AI agents, Wed Nov 11 2026. No macro, syntax, notation, axiom, sorry.
-/
import Derived.Test.YtcmpmobhongkiaaGreatDoorRows
import GoSem.ClaimSeven
namespace Go.Proofs.YtcmpmobhongkiaaGreatDoor
namespace Rows

/-- THE TIED CARD OF 'paddocktop.TopBad'. -/
def topBadCard : Claim7 := { stood := { row := topBadRow, standIns := [], harness := (true, "85bed8ad1aa67569e8a55d80a336e1b7457d71e35a9f1cea5f17937af15c48b2"), looks := false }, kinds := [], alts := [], laidByText := true, laidKinds := [.data, .data, .data, .data, .widerDeep], laidTests := true, laidLooks := .later }
def TopBadCardSaid : Prop := Claim7.holds Tryz.pinned (.plain (OpenSpec.ofChange topBadSpec)) topBadCard

/-- THE TIED CARD OF 'paddocktop.TopSteps'. -/
def topStepsCard : Claim7 := { stood := { row := topStepsRow, standIns := [], harness := (true, "85bed8ad1aa67569e8a55d80a336e1b7457d71e35a9f1cea5f17937af15c48b2"), looks := false }, kinds := [], alts := [], laidByText := true, laidKinds := [.data, .data, .data, .data, .widerDeep], laidTests := true, laidLooks := .later }
def TopStepsCardSaid : Prop := Claim7.holds Tryz.pinned (.plain (OpenSpec.ofChange topStepsSpec)) topStepsCard

/-- THE TIED CARD OF 'paddocktop.TopRefused'. -/
def topRefusedCard : Claim7 := { stood := { row := topRefusedRow, standIns := [], harness := (true, "85bed8ad1aa67569e8a55d80a336e1b7457d71e35a9f1cea5f17937af15c48b2"), looks := false }, kinds := [], alts := [], laidByText := true, laidKinds := [.data, .data, .data, .data, .widerDeep], laidTests := true, laidLooks := .later }
def TopRefusedCardSaid : Prop := Claim7.holds Tryz.pinned (.plain (OpenSpec.ofChange topRefusedSpec)) topRefusedCard

/-- THE TIED CARD OF 'paddockkeep.SizesEnough'. -/
def sizesEnoughCard : Claim7 := { stood := { row := sizesEnoughRow, standIns := [], harness := (true, "85bed8ad1aa67569e8a55d80a336e1b7457d71e35a9f1cea5f17937af15c48b2"), looks := false }, kinds := [], alts := [], laidByText := true, laidKinds := [.data, .data, .data, .data, .widerDeep], laidTests := true, laidLooks := .later }
def SizesEnoughCardSaid : Prop := Claim7.holds Tryz.pinned (.plain (OpenSpec.ofChange sizesEnoughSpec)) sizesEnoughCard

/-- THE TIED CARD OF 'paddockkeep.CachesMerge'. -/
def cachesMergeCard : Claim7 := { stood := { row := cachesMergeRow, standIns := [], harness := (true, "85bed8ad1aa67569e8a55d80a336e1b7457d71e35a9f1cea5f17937af15c48b2"), looks := false }, kinds := [], alts := [], laidByText := true, laidKinds := [.data, .data, .data, .data, .widerDeep], laidTests := true, laidLooks := .later }
def CachesMergeCardSaid : Prop := Claim7.holds Tryz.pinned (.plain (OpenSpec.ofChange cachesMergeSpec)) cachesMergeCard

/-- THE TIED CARD OF 'paddockkeep.CacheGoes'. -/
def cacheGoesCard : Claim7 := { stood := { row := cacheGoesRow, standIns := [], harness := (true, "85bed8ad1aa67569e8a55d80a336e1b7457d71e35a9f1cea5f17937af15c48b2"), looks := false }, kinds := [], alts := [], laidByText := true, laidKinds := [.data, .data, .data, .data, .widerDeep], laidTests := true, laidLooks := .later }
def CacheGoesCardSaid : Prop := Claim7.holds Tryz.pinned (.plain (OpenSpec.ofChange cacheGoesSpec)) cacheGoesCard

/-- THE TIED CARD OF 'paddockkeep.SystemGood'. -/
def systemGoodCard : Claim7 := { stood := { row := systemGoodRow, standIns := [], harness := (true, "85bed8ad1aa67569e8a55d80a336e1b7457d71e35a9f1cea5f17937af15c48b2"), looks := false }, kinds := [], alts := [], laidByText := true, laidKinds := [.data, .data, .data, .data, .widerDeep], laidTests := true, laidLooks := .later }
def SystemGoodCardSaid : Prop := Claim7.holds Tryz.pinned (.plain (OpenSpec.ofChange systemGoodSpec)) systemGoodCard

/-- THE TIED CARD OF 'paddockkeep.ThingsApart'. -/
def thingsApartCard : Claim7 := { stood := { row := thingsApartRow, standIns := [], harness := (true, "85bed8ad1aa67569e8a55d80a336e1b7457d71e35a9f1cea5f17937af15c48b2"), looks := false }, kinds := [], alts := [], laidByText := true, laidKinds := [.data, .data, .data, .data, .widerDeep], laidTests := true, laidLooks := .later }
def ThingsApartCardSaid : Prop := Claim7.holds Tryz.pinned (.plain (OpenSpec.ofChange thingsApartSpec)) thingsApartCard

/-- THE TIED CARD OF 'paddockkeep.WordsStay'. -/
def wordsStayCard : Claim7 := { stood := { row := wordsStayRow, standIns := [], harness := (true, "85bed8ad1aa67569e8a55d80a336e1b7457d71e35a9f1cea5f17937af15c48b2"), looks := false }, kinds := [], alts := [], laidByText := true, laidKinds := [.data, .data, .data, .data, .widerDeep], laidTests := true, laidLooks := .later }
def WordsStayCardSaid : Prop := Claim7.holds Tryz.pinned (.plain (OpenSpec.ofChange wordsStaySpec)) wordsStayCard

/-- THE TIED CARD OF 'paddockkeep.TwiceRefused'. -/
def twiceRefusedCard : Claim7 := { stood := { row := twiceRefusedRow, standIns := [], harness := (true, "85bed8ad1aa67569e8a55d80a336e1b7457d71e35a9f1cea5f17937af15c48b2"), looks := false }, kinds := [], alts := [], laidByText := true, laidKinds := [.data, .data, .data, .data, .widerDeep], laidTests := true, laidLooks := .later }
def TwiceRefusedCardSaid : Prop := Claim7.holds Tryz.pinned (.plain (OpenSpec.ofChange twiceRefusedSpec)) twiceRefusedCard

/-- THE TIED CARD OF 'paddockkeep.FindsAway'. -/
def findsAwayCard : Claim7 := { stood := { row := findsAwayRow, standIns := [], harness := (true, "85bed8ad1aa67569e8a55d80a336e1b7457d71e35a9f1cea5f17937af15c48b2"), looks := false }, kinds := [], alts := [], laidByText := true, laidKinds := [.data, .data, .data, .data, .widerDeep], laidTests := true, laidLooks := .later }
def FindsAwayCardSaid : Prop := Claim7.holds Tryz.pinned (.plain (OpenSpec.ofChange findsAwaySpec)) findsAwayCard

/-- THE TIED CARD OF 'paddockkeep.ResizeKeeps'. -/
def resizeKeepsCard : Claim7 := { stood := { row := resizeKeepsRow, standIns := [], harness := (true, "85bed8ad1aa67569e8a55d80a336e1b7457d71e35a9f1cea5f17937af15c48b2"), looks := false }, kinds := [], alts := [], laidByText := true, laidKinds := [.data, .data, .data, .data, .widerDeep], laidTests := true, laidLooks := .later }
def ResizeKeepsCardSaid : Prop := Claim7.holds Tryz.pinned (.plain (OpenSpec.ofChange resizeKeepsSpec)) resizeKeepsCard

/-- THE TIED CARD OF 'paddockkeep.AllBack'. -/
def allBackCard : Claim7 := { stood := { row := allBackRow, standIns := [], harness := (true, "85bed8ad1aa67569e8a55d80a336e1b7457d71e35a9f1cea5f17937af15c48b2"), looks := false }, kinds := [], alts := [], laidByText := true, laidKinds := [.data, .data, .data, .data, .widerDeep], laidTests := true, laidLooks := .later }
def AllBackCardSaid : Prop := Claim7.holds Tryz.pinned (.plain (OpenSpec.ofChange allBackSpec)) allBackCard

/-- THE TIED CARD OF 'paddocktop.TopTwice'. -/
def topTwiceCard : Claim7 := { stood := { row := topTwiceRow, standIns := [], harness := (true, "85bed8ad1aa67569e8a55d80a336e1b7457d71e35a9f1cea5f17937af15c48b2"), looks := false }, kinds := [], alts := [], laidByText := true, laidKinds := [.data, .data, .data, .data, .widerDeep], laidTests := true, laidLooks := .later }
def TopTwiceCardSaid : Prop := Claim7.holds Tryz.pinned (.plain (OpenSpec.ofChange topTwiceSpec)) topTwiceCard

/-- THE TIED CARD OF 'paddocktop.TopLater'. -/
def topLaterCard : Claim7 := { stood := { row := topLaterRow, standIns := [], harness := (true, "85bed8ad1aa67569e8a55d80a336e1b7457d71e35a9f1cea5f17937af15c48b2"), looks := false }, kinds := [], alts := [], laidByText := true, laidKinds := [.data, .data, .data, .data, .widerDeep], laidTests := true, laidLooks := .later }
def TopLaterCardSaid : Prop := Claim7.holds Tryz.pinned (.plain (OpenSpec.ofChange topLaterSpec)) topLaterCard

/-- THE SECOND FORM's CARD OF 'paddocktop.TopBad'. -/
def topBadUptoCard : Claim7 := { stood := { row := topBadUptoRow, standIns := [], harness := (true, "85bed8ad1aa67569e8a55d80a336e1b7457d71e35a9f1cea5f17937af15c48b2"), looks := false }, kinds := [], alts := [], laidByText := true, laidKinds := [.data, .data, .data, .data, .widerDeep], laidTests := true, laidLooks := .later }
def TopBadUptoCardSaid : Prop := Claim7.holds Tryz.pinned (.plain (OpenSpec.upto topBadSpec)) topBadUptoCard

/-- THE SECOND FORM's CARD OF 'paddocktop.TopSteps'. -/
def topStepsUptoCard : Claim7 := { stood := { row := topStepsUptoRow, standIns := [], harness := (true, "85bed8ad1aa67569e8a55d80a336e1b7457d71e35a9f1cea5f17937af15c48b2"), looks := false }, kinds := [], alts := [], laidByText := true, laidKinds := [.data, .data, .data, .data, .widerDeep], laidTests := true, laidLooks := .later }
def TopStepsUptoCardSaid : Prop := Claim7.holds Tryz.pinned (.plain (OpenSpec.upto topStepsSpec)) topStepsUptoCard

/-- THE SECOND FORM's CARD OF 'paddocktop.TopRefused'. -/
def topRefusedUptoCard : Claim7 := { stood := { row := topRefusedUptoRow, standIns := [], harness := (true, "85bed8ad1aa67569e8a55d80a336e1b7457d71e35a9f1cea5f17937af15c48b2"), looks := false }, kinds := [], alts := [], laidByText := true, laidKinds := [.data, .data, .data, .data, .widerDeep], laidTests := true, laidLooks := .later }
def TopRefusedUptoCardSaid : Prop := Claim7.holds Tryz.pinned (.plain (OpenSpec.upto topRefusedSpec)) topRefusedUptoCard

/-- THE SECOND FORM's CARD OF 'paddockkeep.SizesEnough'. -/
def sizesEnoughUptoCard : Claim7 := { stood := { row := sizesEnoughUptoRow, standIns := [], harness := (true, "85bed8ad1aa67569e8a55d80a336e1b7457d71e35a9f1cea5f17937af15c48b2"), looks := false }, kinds := [], alts := [], laidByText := true, laidKinds := [.data, .data, .data, .data, .widerDeep], laidTests := true, laidLooks := .later }
def SizesEnoughUptoCardSaid : Prop := Claim7.holds Tryz.pinned (.plain (OpenSpec.upto sizesEnoughSpec)) sizesEnoughUptoCard

/-- THE SECOND FORM's CARD OF 'paddockkeep.CachesMerge'. -/
def cachesMergeUptoCard : Claim7 := { stood := { row := cachesMergeUptoRow, standIns := [], harness := (true, "85bed8ad1aa67569e8a55d80a336e1b7457d71e35a9f1cea5f17937af15c48b2"), looks := false }, kinds := [], alts := [], laidByText := true, laidKinds := [.data, .data, .data, .data, .widerDeep], laidTests := true, laidLooks := .later }
def CachesMergeUptoCardSaid : Prop := Claim7.holds Tryz.pinned (.plain (OpenSpec.upto cachesMergeSpec)) cachesMergeUptoCard

/-- THE SECOND FORM's CARD OF 'paddockkeep.CacheGoes'. -/
def cacheGoesUptoCard : Claim7 := { stood := { row := cacheGoesUptoRow, standIns := [], harness := (true, "85bed8ad1aa67569e8a55d80a336e1b7457d71e35a9f1cea5f17937af15c48b2"), looks := false }, kinds := [], alts := [], laidByText := true, laidKinds := [.data, .data, .data, .data, .widerDeep], laidTests := true, laidLooks := .later }
def CacheGoesUptoCardSaid : Prop := Claim7.holds Tryz.pinned (.plain (OpenSpec.upto cacheGoesSpec)) cacheGoesUptoCard

/-- THE SECOND FORM's CARD OF 'paddockkeep.SystemGood'. -/
def systemGoodUptoCard : Claim7 := { stood := { row := systemGoodUptoRow, standIns := [], harness := (true, "85bed8ad1aa67569e8a55d80a336e1b7457d71e35a9f1cea5f17937af15c48b2"), looks := false }, kinds := [], alts := [], laidByText := true, laidKinds := [.data, .data, .data, .data, .widerDeep], laidTests := true, laidLooks := .later }
def SystemGoodUptoCardSaid : Prop := Claim7.holds Tryz.pinned (.plain (OpenSpec.upto systemGoodSpec)) systemGoodUptoCard

/-- THE SECOND FORM's CARD OF 'paddockkeep.ThingsApart'. -/
def thingsApartUptoCard : Claim7 := { stood := { row := thingsApartUptoRow, standIns := [], harness := (true, "85bed8ad1aa67569e8a55d80a336e1b7457d71e35a9f1cea5f17937af15c48b2"), looks := false }, kinds := [], alts := [], laidByText := true, laidKinds := [.data, .data, .data, .data, .widerDeep], laidTests := true, laidLooks := .later }
def ThingsApartUptoCardSaid : Prop := Claim7.holds Tryz.pinned (.plain (OpenSpec.upto thingsApartSpec)) thingsApartUptoCard

/-- THE SECOND FORM's CARD OF 'paddockkeep.WordsStay'. -/
def wordsStayUptoCard : Claim7 := { stood := { row := wordsStayUptoRow, standIns := [], harness := (true, "85bed8ad1aa67569e8a55d80a336e1b7457d71e35a9f1cea5f17937af15c48b2"), looks := false }, kinds := [], alts := [], laidByText := true, laidKinds := [.data, .data, .data, .data, .widerDeep], laidTests := true, laidLooks := .later }
def WordsStayUptoCardSaid : Prop := Claim7.holds Tryz.pinned (.plain (OpenSpec.upto wordsStaySpec)) wordsStayUptoCard

/-- THE SECOND FORM's CARD OF 'paddockkeep.TwiceRefused'. -/
def twiceRefusedUptoCard : Claim7 := { stood := { row := twiceRefusedUptoRow, standIns := [], harness := (true, "85bed8ad1aa67569e8a55d80a336e1b7457d71e35a9f1cea5f17937af15c48b2"), looks := false }, kinds := [], alts := [], laidByText := true, laidKinds := [.data, .data, .data, .data, .widerDeep], laidTests := true, laidLooks := .later }
def TwiceRefusedUptoCardSaid : Prop := Claim7.holds Tryz.pinned (.plain (OpenSpec.upto twiceRefusedSpec)) twiceRefusedUptoCard

/-- THE SECOND FORM's CARD OF 'paddockkeep.FindsAway'. -/
def findsAwayUptoCard : Claim7 := { stood := { row := findsAwayUptoRow, standIns := [], harness := (true, "85bed8ad1aa67569e8a55d80a336e1b7457d71e35a9f1cea5f17937af15c48b2"), looks := false }, kinds := [], alts := [], laidByText := true, laidKinds := [.data, .data, .data, .data, .widerDeep], laidTests := true, laidLooks := .later }
def FindsAwayUptoCardSaid : Prop := Claim7.holds Tryz.pinned (.plain (OpenSpec.upto findsAwaySpec)) findsAwayUptoCard

/-- THE SECOND FORM's CARD OF 'paddockkeep.ResizeKeeps'. -/
def resizeKeepsUptoCard : Claim7 := { stood := { row := resizeKeepsUptoRow, standIns := [], harness := (true, "85bed8ad1aa67569e8a55d80a336e1b7457d71e35a9f1cea5f17937af15c48b2"), looks := false }, kinds := [], alts := [], laidByText := true, laidKinds := [.data, .data, .data, .data, .widerDeep], laidTests := true, laidLooks := .later }
def ResizeKeepsUptoCardSaid : Prop := Claim7.holds Tryz.pinned (.plain (OpenSpec.upto resizeKeepsSpec)) resizeKeepsUptoCard

/-- THE SECOND FORM's CARD OF 'paddockkeep.AllBack'. -/
def allBackUptoCard : Claim7 := { stood := { row := allBackUptoRow, standIns := [], harness := (true, "85bed8ad1aa67569e8a55d80a336e1b7457d71e35a9f1cea5f17937af15c48b2"), looks := false }, kinds := [], alts := [], laidByText := true, laidKinds := [.data, .data, .data, .data, .widerDeep], laidTests := true, laidLooks := .later }
def AllBackUptoCardSaid : Prop := Claim7.holds Tryz.pinned (.plain (OpenSpec.upto allBackSpec)) allBackUptoCard

/-- THE SECOND FORM's CARD OF 'paddocktop.TopTwice'. -/
def topTwiceUptoCard : Claim7 := { stood := { row := topTwiceUptoRow, standIns := [], harness := (true, "85bed8ad1aa67569e8a55d80a336e1b7457d71e35a9f1cea5f17937af15c48b2"), looks := false }, kinds := [], alts := [], laidByText := true, laidKinds := [.data, .data, .data, .data, .widerDeep], laidTests := true, laidLooks := .later }
def TopTwiceUptoCardSaid : Prop := Claim7.holds Tryz.pinned (.plain (OpenSpec.upto topTwiceSpec)) topTwiceUptoCard

/-- THE SECOND FORM's CARD OF 'paddocktop.TopLater'. -/
def topLaterUptoCard : Claim7 := { stood := { row := topLaterUptoRow, standIns := [], harness := (true, "85bed8ad1aa67569e8a55d80a336e1b7457d71e35a9f1cea5f17937af15c48b2"), looks := false }, kinds := [], alts := [], laidByText := true, laidKinds := [.data, .data, .data, .data, .widerDeep], laidTests := true, laidLooks := .later }
def TopLaterUptoCardSaid : Prop := Claim7.holds Tryz.pinned (.plain (OpenSpec.upto topLaterSpec)) topLaterUptoCard
end Rows
end Go.Proofs.YtcmpmobhongkiaaGreatDoor
