/-
  DERIVED. GIVEN WITH THE SEED: THE CARDS: each row of YtkcaheebaicinaaGreatDoorRows.lean that lists a variable, with what it lists TIED to the program's text (the seventh form; the later family's looks); each row that meets fmt, with fmt's text TOLD by the authors' own Lean function (tested against real Go, not proved from fmt's source: count such statements apart). THE CARD IS WHAT COUNTS. Prove the row's statement (the work); the ties are given (YtkcaheebaicinaaGreatDoorTie.lean); close each card by the builder's one call (the guide's Derived/Test/ToyasCard.lean, 'card_holds'). Laid BY PROGRAM, IN A SANDBOX (cutbox-door.mjs). By AI agents, Wed Nov 11 2026. No macro, syntax, notation, axiom, sorry.
-/
import Derived.Test.YtkcaheebaicinaaGreatDoorRows
import GoSem.ClaimSeven
namespace Go.Proofs.YtkcaheebaicinaaGreatDoor
namespace Rows

/-- THE TIED CARD OF 'paddockkeep.BulkAll'. -/
def bulkAllCard : Claim7 := { stood := { row := bulkAllRow, standIns := [], harness := (true, "aa97ce6e3f5bd4ae0754c81bbbe1c8d3f3178479dde377ed3d9e53d62f2dc9a0"), looks := false }, kinds := [], alts := [], laidByText := true, laidKinds := [.data, .data, .data, .data, .widerDeep], laidTests := true, laidLooks := .later }
def BulkAllCardSaid : Prop := Claim7.holds Tryz.pinned (.plain (OpenSpec.ofChange bulkAllSpec)) bulkAllCard

/-- THE TIED CARD OF 'paddockkeep.SizesEnough'. -/
def sizesEnoughCard : Claim7 := { stood := { row := sizesEnoughRow, standIns := [], harness := (true, "aa97ce6e3f5bd4ae0754c81bbbe1c8d3f3178479dde377ed3d9e53d62f2dc9a0"), looks := false }, kinds := [], alts := [], laidByText := true, laidKinds := [.data, .data, .data, .data, .widerDeep], laidTests := true, laidLooks := .later }
def SizesEnoughCardSaid : Prop := Claim7.holds Tryz.pinned (.plain (OpenSpec.ofChange sizesEnoughSpec)) sizesEnoughCard

/-- THE TIED CARD OF 'paddockkeep.CachesMerge'. -/
def cachesMergeCard : Claim7 := { stood := { row := cachesMergeRow, standIns := [], harness := (true, "aa97ce6e3f5bd4ae0754c81bbbe1c8d3f3178479dde377ed3d9e53d62f2dc9a0"), looks := false }, kinds := [], alts := [], laidByText := true, laidKinds := [.data, .data, .data, .data, .widerDeep], laidTests := true, laidLooks := .later }
def CachesMergeCardSaid : Prop := Claim7.holds Tryz.pinned (.plain (OpenSpec.ofChange cachesMergeSpec)) cachesMergeCard

/-- THE TIED CARD OF 'paddockkeep.CacheGoes'. -/
def cacheGoesCard : Claim7 := { stood := { row := cacheGoesRow, standIns := [], harness := (true, "aa97ce6e3f5bd4ae0754c81bbbe1c8d3f3178479dde377ed3d9e53d62f2dc9a0"), looks := false }, kinds := [], alts := [], laidByText := true, laidKinds := [.data, .data, .data, .data, .widerDeep], laidTests := true, laidLooks := .later }
def CacheGoesCardSaid : Prop := Claim7.holds Tryz.pinned (.plain (OpenSpec.ofChange cacheGoesSpec)) cacheGoesCard

/-- THE SECOND FORM's CARD OF 'paddockkeep.BulkAll'. -/
def bulkAllUptoCard : Claim7 := { stood := { row := bulkAllUptoRow, standIns := [], harness := (true, "aa97ce6e3f5bd4ae0754c81bbbe1c8d3f3178479dde377ed3d9e53d62f2dc9a0"), looks := false }, kinds := [], alts := [], laidByText := true, laidKinds := [.data, .data, .data, .data, .widerDeep], laidTests := true, laidLooks := .later }
def BulkAllUptoCardSaid : Prop := Claim7.holds Tryz.pinned (.plain (OpenSpec.upto bulkAllSpec)) bulkAllUptoCard

/-- THE SECOND FORM's CARD OF 'paddockkeep.SizesEnough'. -/
def sizesEnoughUptoCard : Claim7 := { stood := { row := sizesEnoughUptoRow, standIns := [], harness := (true, "aa97ce6e3f5bd4ae0754c81bbbe1c8d3f3178479dde377ed3d9e53d62f2dc9a0"), looks := false }, kinds := [], alts := [], laidByText := true, laidKinds := [.data, .data, .data, .data, .widerDeep], laidTests := true, laidLooks := .later }
def SizesEnoughUptoCardSaid : Prop := Claim7.holds Tryz.pinned (.plain (OpenSpec.upto sizesEnoughSpec)) sizesEnoughUptoCard

/-- THE SECOND FORM's CARD OF 'paddockkeep.CachesMerge'. -/
def cachesMergeUptoCard : Claim7 := { stood := { row := cachesMergeUptoRow, standIns := [], harness := (true, "aa97ce6e3f5bd4ae0754c81bbbe1c8d3f3178479dde377ed3d9e53d62f2dc9a0"), looks := false }, kinds := [], alts := [], laidByText := true, laidKinds := [.data, .data, .data, .data, .widerDeep], laidTests := true, laidLooks := .later }
def CachesMergeUptoCardSaid : Prop := Claim7.holds Tryz.pinned (.plain (OpenSpec.upto cachesMergeSpec)) cachesMergeUptoCard

/-- THE SECOND FORM's CARD OF 'paddockkeep.CacheGoes'. -/
def cacheGoesUptoCard : Claim7 := { stood := { row := cacheGoesUptoRow, standIns := [], harness := (true, "aa97ce6e3f5bd4ae0754c81bbbe1c8d3f3178479dde377ed3d9e53d62f2dc9a0"), looks := false }, kinds := [], alts := [], laidByText := true, laidKinds := [.data, .data, .data, .data, .widerDeep], laidTests := true, laidLooks := .later }
def CacheGoesUptoCardSaid : Prop := Claim7.holds Tryz.pinned (.plain (OpenSpec.upto cacheGoesSpec)) cacheGoesUptoCard
end Rows
end Go.Proofs.YtkcaheebaicinaaGreatDoor
