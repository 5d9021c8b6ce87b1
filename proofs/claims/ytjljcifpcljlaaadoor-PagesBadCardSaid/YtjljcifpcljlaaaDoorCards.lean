/-
  DERIVED. GIVEN WITH THE SEED: THE CARDS: each row of YtjljcifpcljlaaaDoorRows.lean that lists a variable, with what it lists TIED to the program's text (the seventh form; the later family's looks); each row that meets fmt, with fmt's text TOLD by the authors' own Lean function (tested against real Go, not proved from fmt's source: count such statements apart). THE CARD IS WHAT COUNTS. Prove the row's statement (the work); the ties are given (YtjljcifpcljlaaaDoorTie.lean); close each card by the builder's one call (the guide's Derived/Test/ToyasCard.lean, 'card_holds'). Laid BY PROGRAM, IN A SANDBOX (cutbox-door.mjs). By AI agents, Wed Nov 11 2026. No macro, syntax, notation, axiom, sorry.
-/
import Derived.Test.YtjljcifpcljlaaaDoorRows
import GoSem.ClaimSeven
namespace Go.Proofs.YtjljcifpcljlaaaDoor
namespace Rows

/-- THE TIED CARD OF 'paddockkeep.PagesGood'. -/
def pagesGoodCard : Claim7 := { stood := { row := pagesGoodRow, standIns := [], harness := (true, "236824c0be2f409542eedb36cb923b9dbebe7e44ae69bfb06f32dd305959f39f"), looks := false }, kinds := [], alts := [], laidByText := true, laidKinds := [.data], laidTests := true, laidLooks := .later }
def PagesGoodCardSaid : Prop := Claim7.holds Tryd.pinned (.plain (OpenSpec.ofChange pagesGoodSpec)) pagesGoodCard

/-- THE TIED CARD OF 'paddockkeep.PagesApart'. -/
def pagesApartCard : Claim7 := { stood := { row := pagesApartRow, standIns := [], harness := (true, "236824c0be2f409542eedb36cb923b9dbebe7e44ae69bfb06f32dd305959f39f"), looks := false }, kinds := [], alts := [], laidByText := true, laidKinds := [.data], laidTests := true, laidLooks := .later }
def PagesApartCardSaid : Prop := Claim7.holds Tryd.pinned (.plain (OpenSpec.ofChange pagesApartSpec)) pagesApartCard

/-- THE TIED CARD OF 'paddockkeep.PagesRoom'. -/
def pagesRoomCard : Claim7 := { stood := { row := pagesRoomRow, standIns := [], harness := (true, "236824c0be2f409542eedb36cb923b9dbebe7e44ae69bfb06f32dd305959f39f"), looks := false }, kinds := [], alts := [], laidByText := true, laidKinds := [.data], laidTests := true, laidLooks := .later }
def PagesRoomCardSaid : Prop := Claim7.holds Tryd.pinned (.plain (OpenSpec.ofChange pagesRoomSpec)) pagesRoomCard

/-- THE TIED CARD OF 'paddockkeep.PagesHeld'. -/
def pagesHeldCard : Claim7 := { stood := { row := pagesHeldRow, standIns := [], harness := (true, "236824c0be2f409542eedb36cb923b9dbebe7e44ae69bfb06f32dd305959f39f"), looks := false }, kinds := [], alts := [], laidByText := true, laidKinds := [.data], laidTests := true, laidLooks := .later }
def PagesHeldCardSaid : Prop := Claim7.holds Tryd.pinned (.plain (OpenSpec.ofChange pagesHeldSpec)) pagesHeldCard

/-- THE TIED CARD OF 'paddockkeep.PagesLists'. -/
def pagesListsCard : Claim7 := { stood := { row := pagesListsRow, standIns := [], harness := (true, "236824c0be2f409542eedb36cb923b9dbebe7e44ae69bfb06f32dd305959f39f"), looks := false }, kinds := [], alts := [], laidByText := true, laidKinds := [.data], laidTests := true, laidLooks := .later }
def PagesListsCardSaid : Prop := Claim7.holds Tryd.pinned (.plain (OpenSpec.ofChange pagesListsSpec)) pagesListsCard

/-- THE TIED CARD OF 'paddockkeep.PagesBad'. -/
def pagesBadCard : Claim7 := { stood := { row := pagesBadRow, standIns := [], harness := (true, "236824c0be2f409542eedb36cb923b9dbebe7e44ae69bfb06f32dd305959f39f"), looks := false }, kinds := [], alts := [], laidByText := true, laidKinds := [.data], laidTests := true, laidLooks := .later }
def PagesBadCardSaid : Prop := Claim7.holds Tryd.pinned (.plain (OpenSpec.ofChange pagesBadSpec)) pagesBadCard

/-- THE TIED CARD OF 'paddockkeep.PagesWhole'. -/
def pagesWholeCard : Claim7 := { stood := { row := pagesWholeRow, standIns := [], harness := (true, "236824c0be2f409542eedb36cb923b9dbebe7e44ae69bfb06f32dd305959f39f"), looks := false }, kinds := [], alts := [], laidByText := true, laidKinds := [.data], laidTests := true, laidLooks := .later }
def PagesWholeCardSaid : Prop := Claim7.holds Tryd.pinned (.plain (OpenSpec.ofChange pagesWholeSpec)) pagesWholeCard

/-- THE SECOND FORM's CARD OF 'paddockkeep.PagesGood'. -/
def pagesGoodUptoCard : Claim7 := { stood := { row := pagesGoodUptoRow, standIns := [], harness := (true, "236824c0be2f409542eedb36cb923b9dbebe7e44ae69bfb06f32dd305959f39f"), looks := false }, kinds := [], alts := [], laidByText := true, laidKinds := [.data], laidTests := true, laidLooks := .later }
def PagesGoodUptoCardSaid : Prop := Claim7.holds Tryd.pinned (.plain (OpenSpec.upto pagesGoodSpec)) pagesGoodUptoCard

/-- THE SECOND FORM's CARD OF 'paddockkeep.PagesApart'. -/
def pagesApartUptoCard : Claim7 := { stood := { row := pagesApartUptoRow, standIns := [], harness := (true, "236824c0be2f409542eedb36cb923b9dbebe7e44ae69bfb06f32dd305959f39f"), looks := false }, kinds := [], alts := [], laidByText := true, laidKinds := [.data], laidTests := true, laidLooks := .later }
def PagesApartUptoCardSaid : Prop := Claim7.holds Tryd.pinned (.plain (OpenSpec.upto pagesApartSpec)) pagesApartUptoCard

/-- THE SECOND FORM's CARD OF 'paddockkeep.PagesRoom'. -/
def pagesRoomUptoCard : Claim7 := { stood := { row := pagesRoomUptoRow, standIns := [], harness := (true, "236824c0be2f409542eedb36cb923b9dbebe7e44ae69bfb06f32dd305959f39f"), looks := false }, kinds := [], alts := [], laidByText := true, laidKinds := [.data], laidTests := true, laidLooks := .later }
def PagesRoomUptoCardSaid : Prop := Claim7.holds Tryd.pinned (.plain (OpenSpec.upto pagesRoomSpec)) pagesRoomUptoCard

/-- THE SECOND FORM's CARD OF 'paddockkeep.PagesHeld'. -/
def pagesHeldUptoCard : Claim7 := { stood := { row := pagesHeldUptoRow, standIns := [], harness := (true, "236824c0be2f409542eedb36cb923b9dbebe7e44ae69bfb06f32dd305959f39f"), looks := false }, kinds := [], alts := [], laidByText := true, laidKinds := [.data], laidTests := true, laidLooks := .later }
def PagesHeldUptoCardSaid : Prop := Claim7.holds Tryd.pinned (.plain (OpenSpec.upto pagesHeldSpec)) pagesHeldUptoCard

/-- THE SECOND FORM's CARD OF 'paddockkeep.PagesLists'. -/
def pagesListsUptoCard : Claim7 := { stood := { row := pagesListsUptoRow, standIns := [], harness := (true, "236824c0be2f409542eedb36cb923b9dbebe7e44ae69bfb06f32dd305959f39f"), looks := false }, kinds := [], alts := [], laidByText := true, laidKinds := [.data], laidTests := true, laidLooks := .later }
def PagesListsUptoCardSaid : Prop := Claim7.holds Tryd.pinned (.plain (OpenSpec.upto pagesListsSpec)) pagesListsUptoCard

/-- THE SECOND FORM's CARD OF 'paddockkeep.PagesBad'. -/
def pagesBadUptoCard : Claim7 := { stood := { row := pagesBadUptoRow, standIns := [], harness := (true, "236824c0be2f409542eedb36cb923b9dbebe7e44ae69bfb06f32dd305959f39f"), looks := false }, kinds := [], alts := [], laidByText := true, laidKinds := [.data], laidTests := true, laidLooks := .later }
def PagesBadUptoCardSaid : Prop := Claim7.holds Tryd.pinned (.plain (OpenSpec.upto pagesBadSpec)) pagesBadUptoCard

/-- THE SECOND FORM's CARD OF 'paddockkeep.PagesWhole'. -/
def pagesWholeUptoCard : Claim7 := { stood := { row := pagesWholeUptoRow, standIns := [], harness := (true, "236824c0be2f409542eedb36cb923b9dbebe7e44ae69bfb06f32dd305959f39f"), looks := false }, kinds := [], alts := [], laidByText := true, laidKinds := [.data], laidTests := true, laidLooks := .later }
def PagesWholeUptoCardSaid : Prop := Claim7.holds Tryd.pinned (.plain (OpenSpec.upto pagesWholeSpec)) pagesWholeUptoCard
end Rows
end Go.Proofs.YtjljcifpcljlaaaDoor
