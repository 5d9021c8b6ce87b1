/-
  DERIVED. GIVEN WITH THE SEED: THE CARDS: each row of YtjaogfhcnmjkiaaGreatDoorRows.lean that lists a variable, with what it lists TIED to the program's text (the seventh form; the later family's looks); each row that meets fmt, with fmt's text TOLD by the authors' own Lean function (tested against real Go, not proved from fmt's source: count such statements apart). THE CARD IS WHAT COUNTS. Prove the row's statement (the work); the ties are given (YtjaogfhcnmjkiaaGreatDoorTie.lean); close each card by the builder's one call (the guide's Derived/Test/ToyasCard.lean, 'card_holds'). Laid BY PROGRAM, IN A SANDBOX (cutbox-door.mjs). By AI agents, Wed Nov 11 2026. No macro, syntax, notation, axiom, sorry.
-/
import Derived.Test.YtjaogfhcnmjkiaaGreatDoorRows
import GoSem.ClaimSeven
namespace Go.Proofs.YtjaogfhcnmjkiaaGreatDoor
namespace Rows

/-- THE TIED CARD OF 'paddockkeep.SystemGood'. -/
def systemGoodCard : Claim7 := { stood := { row := systemGoodRow, standIns := [], harness := (true, "842d6d2508f9d3f8eaa94559e52b95d932e8eb8fc38af9529146348379645ae1"), looks := false }, kinds := [], alts := [], laidByText := true, laidKinds := [.data, .data, .data, .data, .widerDeep], laidTests := true, laidLooks := .later }
def SystemGoodCardSaid : Prop := Claim7.holds Tryz.pinned (.plain (OpenSpec.ofChange systemGoodSpec)) systemGoodCard

/-- THE TIED CARD OF 'paddockkeep.ThingsApart'. -/
def thingsApartCard : Claim7 := { stood := { row := thingsApartRow, standIns := [], harness := (true, "842d6d2508f9d3f8eaa94559e52b95d932e8eb8fc38af9529146348379645ae1"), looks := false }, kinds := [], alts := [], laidByText := true, laidKinds := [.data, .data, .data, .data, .widerDeep], laidTests := true, laidLooks := .later }
def ThingsApartCardSaid : Prop := Claim7.holds Tryz.pinned (.plain (OpenSpec.ofChange thingsApartSpec)) thingsApartCard

/-- THE TIED CARD OF 'paddockkeep.WordsStay'. -/
def wordsStayCard : Claim7 := { stood := { row := wordsStayRow, standIns := [], harness := (true, "842d6d2508f9d3f8eaa94559e52b95d932e8eb8fc38af9529146348379645ae1"), looks := false }, kinds := [], alts := [], laidByText := true, laidKinds := [.data, .data, .data, .data, .widerDeep], laidTests := true, laidLooks := .later }
def WordsStayCardSaid : Prop := Claim7.holds Tryz.pinned (.plain (OpenSpec.ofChange wordsStaySpec)) wordsStayCard

/-- THE TIED CARD OF 'paddockkeep.TwiceRefused'. -/
def twiceRefusedCard : Claim7 := { stood := { row := twiceRefusedRow, standIns := [], harness := (true, "842d6d2508f9d3f8eaa94559e52b95d932e8eb8fc38af9529146348379645ae1"), looks := false }, kinds := [], alts := [], laidByText := true, laidKinds := [.data, .data, .data, .data, .widerDeep], laidTests := true, laidLooks := .later }
def TwiceRefusedCardSaid : Prop := Claim7.holds Tryz.pinned (.plain (OpenSpec.ofChange twiceRefusedSpec)) twiceRefusedCard

/-- THE TIED CARD OF 'paddockkeep.FindsAway'. -/
def findsAwayCard : Claim7 := { stood := { row := findsAwayRow, standIns := [], harness := (true, "842d6d2508f9d3f8eaa94559e52b95d932e8eb8fc38af9529146348379645ae1"), looks := false }, kinds := [], alts := [], laidByText := true, laidKinds := [.data, .data, .data, .data, .widerDeep], laidTests := true, laidLooks := .later }
def FindsAwayCardSaid : Prop := Claim7.holds Tryz.pinned (.plain (OpenSpec.ofChange findsAwaySpec)) findsAwayCard

/-- THE TIED CARD OF 'paddockkeep.AllBack'. -/
def allBackCard : Claim7 := { stood := { row := allBackRow, standIns := [], harness := (true, "842d6d2508f9d3f8eaa94559e52b95d932e8eb8fc38af9529146348379645ae1"), looks := false }, kinds := [], alts := [], laidByText := true, laidKinds := [.data, .data, .data, .data, .widerDeep], laidTests := true, laidLooks := .later }
def AllBackCardSaid : Prop := Claim7.holds Tryz.pinned (.plain (OpenSpec.ofChange allBackSpec)) allBackCard

/-- THE SECOND FORM's CARD OF 'paddockkeep.SystemGood'. -/
def systemGoodUptoCard : Claim7 := { stood := { row := systemGoodUptoRow, standIns := [], harness := (true, "842d6d2508f9d3f8eaa94559e52b95d932e8eb8fc38af9529146348379645ae1"), looks := false }, kinds := [], alts := [], laidByText := true, laidKinds := [.data, .data, .data, .data, .widerDeep], laidTests := true, laidLooks := .later }
def SystemGoodUptoCardSaid : Prop := Claim7.holds Tryz.pinned (.plain (OpenSpec.upto systemGoodSpec)) systemGoodUptoCard

/-- THE SECOND FORM's CARD OF 'paddockkeep.ThingsApart'. -/
def thingsApartUptoCard : Claim7 := { stood := { row := thingsApartUptoRow, standIns := [], harness := (true, "842d6d2508f9d3f8eaa94559e52b95d932e8eb8fc38af9529146348379645ae1"), looks := false }, kinds := [], alts := [], laidByText := true, laidKinds := [.data, .data, .data, .data, .widerDeep], laidTests := true, laidLooks := .later }
def ThingsApartUptoCardSaid : Prop := Claim7.holds Tryz.pinned (.plain (OpenSpec.upto thingsApartSpec)) thingsApartUptoCard

/-- THE SECOND FORM's CARD OF 'paddockkeep.WordsStay'. -/
def wordsStayUptoCard : Claim7 := { stood := { row := wordsStayUptoRow, standIns := [], harness := (true, "842d6d2508f9d3f8eaa94559e52b95d932e8eb8fc38af9529146348379645ae1"), looks := false }, kinds := [], alts := [], laidByText := true, laidKinds := [.data, .data, .data, .data, .widerDeep], laidTests := true, laidLooks := .later }
def WordsStayUptoCardSaid : Prop := Claim7.holds Tryz.pinned (.plain (OpenSpec.upto wordsStaySpec)) wordsStayUptoCard

/-- THE SECOND FORM's CARD OF 'paddockkeep.TwiceRefused'. -/
def twiceRefusedUptoCard : Claim7 := { stood := { row := twiceRefusedUptoRow, standIns := [], harness := (true, "842d6d2508f9d3f8eaa94559e52b95d932e8eb8fc38af9529146348379645ae1"), looks := false }, kinds := [], alts := [], laidByText := true, laidKinds := [.data, .data, .data, .data, .widerDeep], laidTests := true, laidLooks := .later }
def TwiceRefusedUptoCardSaid : Prop := Claim7.holds Tryz.pinned (.plain (OpenSpec.upto twiceRefusedSpec)) twiceRefusedUptoCard

/-- THE SECOND FORM's CARD OF 'paddockkeep.FindsAway'. -/
def findsAwayUptoCard : Claim7 := { stood := { row := findsAwayUptoRow, standIns := [], harness := (true, "842d6d2508f9d3f8eaa94559e52b95d932e8eb8fc38af9529146348379645ae1"), looks := false }, kinds := [], alts := [], laidByText := true, laidKinds := [.data, .data, .data, .data, .widerDeep], laidTests := true, laidLooks := .later }
def FindsAwayUptoCardSaid : Prop := Claim7.holds Tryz.pinned (.plain (OpenSpec.upto findsAwaySpec)) findsAwayUptoCard

/-- THE SECOND FORM's CARD OF 'paddockkeep.AllBack'. -/
def allBackUptoCard : Claim7 := { stood := { row := allBackUptoRow, standIns := [], harness := (true, "842d6d2508f9d3f8eaa94559e52b95d932e8eb8fc38af9529146348379645ae1"), looks := false }, kinds := [], alts := [], laidByText := true, laidKinds := [.data, .data, .data, .data, .widerDeep], laidTests := true, laidLooks := .later }
def AllBackUptoCardSaid : Prop := Claim7.holds Tryz.pinned (.plain (OpenSpec.upto allBackSpec)) allBackUptoCard
end Rows
end Go.Proofs.YtjaogfhcnmjkiaaGreatDoor
