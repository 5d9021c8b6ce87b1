/-
  DERIVED. GIVEN WITH THE SEED: THE CARDS: each row of YtbkajbjhffdlfaaDoorRows.lean that lists a variable, with what it lists TIED to the program's text (the seventh form; the later family's looks); each row that meets fmt, with fmt's text TOLD by the authors' own Lean function (tested against real Go, not proved from fmt's source: count such statements apart). THE CARD IS WHAT COUNTS. Prove the row's statement (the work); the ties are given (YtbkajbjhffdlfaaDoorTie.lean); close each card by the builder's one call (the guide's Derived/Test/ToyasCard.lean, 'card_holds'). Laid BY PROGRAM, IN A SANDBOX (cutbox-door.mjs). By AI agents, Wed Nov 11 2026. No macro, syntax, notation, axiom, sorry.
-/
import Derived.Test.YtbkajbjhffdlfaaDoorRows
import GoSem.ClaimSeven
namespace Go.Proofs.YtbkajbjhffdlfaaDoor
namespace Rows

/-- THE TIED CARD OF 'paddockkeep.ZoneGood'. -/
def zoneGoodCard : Claim7 := { stood := { row := zoneGoodRow, standIns := [], harness := (true, "95af1ffba9527efcf2a133c7f7aa20ecc259104d04cb56011faaa5ef55ed5c9a"), looks := false }, kinds := [], alts := [], laidByText := true, laidKinds := [.data], laidTests := true, laidLooks := .later }
def ZoneGoodCardSaid : Prop := Claim7.holds Tryd.pinned (.plain (OpenSpec.ofChange zoneGoodSpec)) zoneGoodCard

/-- THE TIED CARD OF 'paddockkeep.ZoneApart'. -/
def zoneApartCard : Claim7 := { stood := { row := zoneApartRow, standIns := [], harness := (true, "95af1ffba9527efcf2a133c7f7aa20ecc259104d04cb56011faaa5ef55ed5c9a"), looks := false }, kinds := [], alts := [], laidByText := true, laidKinds := [.data], laidTests := true, laidLooks := .later }
def ZoneApartCardSaid : Prop := Claim7.holds Tryd.pinned (.plain (OpenSpec.ofChange zoneApartSpec)) zoneApartCard

/-- THE TIED CARD OF 'paddockkeep.ZoneFull'. -/
def zoneFullCard : Claim7 := { stood := { row := zoneFullRow, standIns := [], harness := (true, "95af1ffba9527efcf2a133c7f7aa20ecc259104d04cb56011faaa5ef55ed5c9a"), looks := false }, kinds := [], alts := [], laidByText := true, laidKinds := [.data], laidTests := true, laidLooks := .later }
def ZoneFullCardSaid : Prop := Claim7.holds Tryd.pinned (.plain (OpenSpec.ofChange zoneFullSpec)) zoneFullCard

/-- THE TIED CARD OF 'paddockkeep.ZoneTypes'. -/
def zoneTypesCard : Claim7 := { stood := { row := zoneTypesRow, standIns := [], harness := (true, "95af1ffba9527efcf2a133c7f7aa20ecc259104d04cb56011faaa5ef55ed5c9a"), looks := false }, kinds := [], alts := [], laidByText := true, laidKinds := [.data], laidTests := true, laidLooks := .later }
def ZoneTypesCardSaid : Prop := Claim7.holds Tryd.pinned (.plain (OpenSpec.ofChange zoneTypesSpec)) zoneTypesCard

/-- THE TIED CARD OF 'paddockkeep.ZoneTwice'. -/
def zoneTwiceCard : Claim7 := { stood := { row := zoneTwiceRow, standIns := [], harness := (true, "95af1ffba9527efcf2a133c7f7aa20ecc259104d04cb56011faaa5ef55ed5c9a"), looks := false }, kinds := [], alts := [], laidByText := true, laidKinds := [.data], laidTests := true, laidLooks := .later }
def ZoneTwiceCardSaid : Prop := Claim7.holds Tryd.pinned (.plain (OpenSpec.ofChange zoneTwiceSpec)) zoneTwiceCard

/-- THE TIED CARD OF 'paddockkeep.ZoneWhole'. -/
def zoneWholeCard : Claim7 := { stood := { row := zoneWholeRow, standIns := [], harness := (true, "95af1ffba9527efcf2a133c7f7aa20ecc259104d04cb56011faaa5ef55ed5c9a"), looks := false }, kinds := [], alts := [], laidByText := true, laidKinds := [.data], laidTests := true, laidLooks := .later }
def ZoneWholeCardSaid : Prop := Claim7.holds Tryd.pinned (.plain (OpenSpec.ofChange zoneWholeSpec)) zoneWholeCard

/-- THE SECOND FORM's CARD OF 'paddockkeep.ZoneGood'. -/
def zoneGoodUptoCard : Claim7 := { stood := { row := zoneGoodUptoRow, standIns := [], harness := (true, "95af1ffba9527efcf2a133c7f7aa20ecc259104d04cb56011faaa5ef55ed5c9a"), looks := false }, kinds := [], alts := [], laidByText := true, laidKinds := [.data], laidTests := true, laidLooks := .later }
def ZoneGoodUptoCardSaid : Prop := Claim7.holds Tryd.pinned (.plain (OpenSpec.upto zoneGoodSpec)) zoneGoodUptoCard

/-- THE SECOND FORM's CARD OF 'paddockkeep.ZoneApart'. -/
def zoneApartUptoCard : Claim7 := { stood := { row := zoneApartUptoRow, standIns := [], harness := (true, "95af1ffba9527efcf2a133c7f7aa20ecc259104d04cb56011faaa5ef55ed5c9a"), looks := false }, kinds := [], alts := [], laidByText := true, laidKinds := [.data], laidTests := true, laidLooks := .later }
def ZoneApartUptoCardSaid : Prop := Claim7.holds Tryd.pinned (.plain (OpenSpec.upto zoneApartSpec)) zoneApartUptoCard

/-- THE SECOND FORM's CARD OF 'paddockkeep.ZoneFull'. -/
def zoneFullUptoCard : Claim7 := { stood := { row := zoneFullUptoRow, standIns := [], harness := (true, "95af1ffba9527efcf2a133c7f7aa20ecc259104d04cb56011faaa5ef55ed5c9a"), looks := false }, kinds := [], alts := [], laidByText := true, laidKinds := [.data], laidTests := true, laidLooks := .later }
def ZoneFullUptoCardSaid : Prop := Claim7.holds Tryd.pinned (.plain (OpenSpec.upto zoneFullSpec)) zoneFullUptoCard

/-- THE SECOND FORM's CARD OF 'paddockkeep.ZoneTypes'. -/
def zoneTypesUptoCard : Claim7 := { stood := { row := zoneTypesUptoRow, standIns := [], harness := (true, "95af1ffba9527efcf2a133c7f7aa20ecc259104d04cb56011faaa5ef55ed5c9a"), looks := false }, kinds := [], alts := [], laidByText := true, laidKinds := [.data], laidTests := true, laidLooks := .later }
def ZoneTypesUptoCardSaid : Prop := Claim7.holds Tryd.pinned (.plain (OpenSpec.upto zoneTypesSpec)) zoneTypesUptoCard

/-- THE SECOND FORM's CARD OF 'paddockkeep.ZoneTwice'. -/
def zoneTwiceUptoCard : Claim7 := { stood := { row := zoneTwiceUptoRow, standIns := [], harness := (true, "95af1ffba9527efcf2a133c7f7aa20ecc259104d04cb56011faaa5ef55ed5c9a"), looks := false }, kinds := [], alts := [], laidByText := true, laidKinds := [.data], laidTests := true, laidLooks := .later }
def ZoneTwiceUptoCardSaid : Prop := Claim7.holds Tryd.pinned (.plain (OpenSpec.upto zoneTwiceSpec)) zoneTwiceUptoCard

/-- THE SECOND FORM's CARD OF 'paddockkeep.ZoneWhole'. -/
def zoneWholeUptoCard : Claim7 := { stood := { row := zoneWholeUptoRow, standIns := [], harness := (true, "95af1ffba9527efcf2a133c7f7aa20ecc259104d04cb56011faaa5ef55ed5c9a"), looks := false }, kinds := [], alts := [], laidByText := true, laidKinds := [.data], laidTests := true, laidLooks := .later }
def ZoneWholeUptoCardSaid : Prop := Claim7.holds Tryd.pinned (.plain (OpenSpec.upto zoneWholeSpec)) zoneWholeUptoCard
end Rows
end Go.Proofs.YtbkajbjhffdlfaaDoor
