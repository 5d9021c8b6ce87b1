/-
  NARROWER THAN 'FOR EVERY INPUT', by the rows' own cells (each row's printed sentence says how): ZoneGood: laid · ZoneApart: laid · ZoneFull: laid · ZoneTypes: laid · ZoneTwice: laid · ZoneWhole: laid.
  DERIVED. THE GIVEN ROWS OF THIS SEAT. 6 by the template 'for every input the law returns true; each argument reads behind the call as it read before'; 0 by the template 'total and deterministic' (their statements: YtbkajbjhffdlfaaDoorTotals.lean).
  GIVEN WITH THE SEED: the statements are not yours to turn. If you find one false, say at which input.
  Laid BY PROGRAM, IN A SANDBOX (cutbox-rows.mjs): the forced cells as the released guide's own fill.sh prints them over the translation 949217129d5ff23c… (all of the seat's roots in one cut). By AI agents, Wed Nov 11 2026. No macro, syntax, notation, axiom, sorry.
-/
import Derived.Test.YtbkajbjhffdlfaaDoorChecked
import GoSem.Claim
import GoSem.ClaimJoined
import GoSem.ClaimMapViews
import Derived.JoinedTies
import Derived.KernelRfl
namespace Go.Proofs.YtbkajbjhffdlfaaDoor
/- THE CELL 'sum', in the pinned program and in every row, IS THE sha256 OF THE DUMP (.gsa) THAT YtbkajbjhffdlfaaDoorProg.lean LOADS. Nothing in Lean hashes anything: it is a label: what it is worth is what the hold of that sum in a sandbox is worth. -/
noncomputable def Tryd.pinned : Pinned := { name := "ytbkajbjhffdlfaadoor", sum := "949217129d5ff23cf5d6beea22371111b8902d6430c20e3de2413ee061c48265", checked := Tryd.checked }
namespace Rows
def none {H : Type} : Left H := { results := [], args := [] }

/- WHAT THE LISTED PACKAGE-LEVEL VARIABLES READ AS WHEN THE CALL BEGINS. Each datum BY PROGRAM (the guide's laid-datum.mjs) off the statement by which the dump's own 'gosem.cut.vars' lays the variable. In a bare row this is a premise. The card (YtbkajbjhffdlfaaDoorCards.lean) ties it to the program's text. -/
def laid_paddock_buddy_others {H : Type} : DataW H := .agg [.agg [.lit (.int .i64 2), .lit (.int .i64 1)], .agg [.lit (.int .i64 2), .lit (.int .i64 0)], .agg [.lit (.int .i64 0), .lit (.int .i64 1)]]

/-- 'paddockkeep.ZoneGood': WHATEVER THE INPUT: true; the input reads as it did. -/
def zoneGoodSpec : ChangeSpec := { name := "zoneGood", fn := fun _ => fun
  | [d] => { results := [.lit (.bool true)], args := [d] }
  | _ => none }
def zoneGoodRow : OpenClaim := { program := "ytbkajbjhffdlfaadoor", sum := "949217129d5ff23cf5d6beea22371111b8902d6430c20e3de2413ee061c48265", func := "paddock/paddockkeep.ZoneGood", spec := "zoneGood", inPlace := ["slices.overlaps[paddock/api.Block]"], unfollowed := true, recurses := true, named := ["paddock/buddy.others"], apart := false, laid := [("paddock/buddy.others", laid_paddock_buddy_others)] }
def ZoneGoodSaid : Prop := zoneGoodRow.holds Tryd.pinned (OpenSpec.ofChange zoneGoodSpec)

/-- ITS FALSE NEIGHBOUR: 'it returns false'. Refute it at one input. -/
def zoneGoodWrong : ChangeSpec := { name := "zoneGood", fn := fun _ => fun
  | [d] => { results := [.lit (.bool false)], args := [d] }
  | _ => none }
def ZoneGoodWrongFalsely : Prop := zoneGoodRow.holds Tryd.pinned (OpenSpec.ofChange zoneGoodWrong)

/-- 'paddockkeep.ZoneApart': WHATEVER THE INPUT: true; the input reads as it did. -/
def zoneApartSpec : ChangeSpec := { name := "zoneApart", fn := fun _ => fun
  | [d] => { results := [.lit (.bool true)], args := [d] }
  | _ => none }
def zoneApartRow : OpenClaim := { program := "ytbkajbjhffdlfaadoor", sum := "949217129d5ff23cf5d6beea22371111b8902d6430c20e3de2413ee061c48265", func := "paddock/paddockkeep.ZoneApart", spec := "zoneApart", inPlace := ["slices.overlaps[paddock/api.Block]"], unfollowed := true, recurses := true, named := ["paddock/buddy.others"], apart := false, laid := [("paddock/buddy.others", laid_paddock_buddy_others)] }
def ZoneApartSaid : Prop := zoneApartRow.holds Tryd.pinned (OpenSpec.ofChange zoneApartSpec)

/-- ITS FALSE NEIGHBOUR: 'it returns false'. Refute it at one input. -/
def zoneApartWrong : ChangeSpec := { name := "zoneApart", fn := fun _ => fun
  | [d] => { results := [.lit (.bool false)], args := [d] }
  | _ => none }
def ZoneApartWrongFalsely : Prop := zoneApartRow.holds Tryd.pinned (OpenSpec.ofChange zoneApartWrong)

/-- 'paddockkeep.ZoneFull': WHATEVER THE INPUT: true; the input reads as it did. -/
def zoneFullSpec : ChangeSpec := { name := "zoneFull", fn := fun _ => fun
  | [d1, d2, d3] => { results := [.lit (.bool true)], args := [d1, d2, d3] }
  | _ => none }
def zoneFullRow : OpenClaim := { program := "ytbkajbjhffdlfaadoor", sum := "949217129d5ff23cf5d6beea22371111b8902d6430c20e3de2413ee061c48265", func := "paddock/paddockkeep.ZoneFull", spec := "zoneFull", inPlace := ["slices.overlaps[paddock/api.Block]"], unfollowed := true, recurses := true, named := ["paddock/buddy.others"], apart := false, laid := [("paddock/buddy.others", laid_paddock_buddy_others)] }
def ZoneFullSaid : Prop := zoneFullRow.holds Tryd.pinned (OpenSpec.ofChange zoneFullSpec)

/-- ITS FALSE NEIGHBOUR: 'it returns false'. Refute it at one input. -/
def zoneFullWrong : ChangeSpec := { name := "zoneFull", fn := fun _ => fun
  | [d1, d2, d3] => { results := [.lit (.bool false)], args := [d1, d2, d3] }
  | _ => none }
def ZoneFullWrongFalsely : Prop := zoneFullRow.holds Tryd.pinned (OpenSpec.ofChange zoneFullWrong)

/-- 'paddockkeep.ZoneTypes': WHATEVER THE INPUT: true; the input reads as it did. -/
def zoneTypesSpec : ChangeSpec := { name := "zoneTypes", fn := fun _ => fun
  | [d] => { results := [.lit (.bool true)], args := [d] }
  | _ => none }
def zoneTypesRow : OpenClaim := { program := "ytbkajbjhffdlfaadoor", sum := "949217129d5ff23cf5d6beea22371111b8902d6430c20e3de2413ee061c48265", func := "paddock/paddockkeep.ZoneTypes", spec := "zoneTypes", inPlace := ["slices.overlaps[paddock/api.Block]"], unfollowed := true, recurses := true, named := ["paddock/buddy.others"], apart := false, laid := [("paddock/buddy.others", laid_paddock_buddy_others)] }
def ZoneTypesSaid : Prop := zoneTypesRow.holds Tryd.pinned (OpenSpec.ofChange zoneTypesSpec)

/-- ITS FALSE NEIGHBOUR: 'it returns false'. Refute it at one input. -/
def zoneTypesWrong : ChangeSpec := { name := "zoneTypes", fn := fun _ => fun
  | [d] => { results := [.lit (.bool false)], args := [d] }
  | _ => none }
def ZoneTypesWrongFalsely : Prop := zoneTypesRow.holds Tryd.pinned (OpenSpec.ofChange zoneTypesWrong)

/-- 'paddockkeep.ZoneTwice': WHATEVER THE INPUT: true; the input reads as it did. -/
def zoneTwiceSpec : ChangeSpec := { name := "zoneTwice", fn := fun _ => fun
  | [d1, d2] => { results := [.lit (.bool true)], args := [d1, d2] }
  | _ => none }
def zoneTwiceRow : OpenClaim := { program := "ytbkajbjhffdlfaadoor", sum := "949217129d5ff23cf5d6beea22371111b8902d6430c20e3de2413ee061c48265", func := "paddock/paddockkeep.ZoneTwice", spec := "zoneTwice", inPlace := ["slices.overlaps[paddock/api.Block]"], unfollowed := true, recurses := true, named := ["paddock/buddy.others"], apart := false, laid := [("paddock/buddy.others", laid_paddock_buddy_others)] }
def ZoneTwiceSaid : Prop := zoneTwiceRow.holds Tryd.pinned (OpenSpec.ofChange zoneTwiceSpec)

/-- ITS FALSE NEIGHBOUR: 'it returns false'. Refute it at one input. -/
def zoneTwiceWrong : ChangeSpec := { name := "zoneTwice", fn := fun _ => fun
  | [d1, d2] => { results := [.lit (.bool false)], args := [d1, d2] }
  | _ => none }
def ZoneTwiceWrongFalsely : Prop := zoneTwiceRow.holds Tryd.pinned (OpenSpec.ofChange zoneTwiceWrong)

/-- 'paddockkeep.ZoneWhole': WHATEVER THE INPUT: true; the input reads as it did. -/
def zoneWholeSpec : ChangeSpec := { name := "zoneWhole", fn := fun _ => fun
  | [d] => { results := [.lit (.bool true)], args := [d] }
  | _ => none }
def zoneWholeRow : OpenClaim := { program := "ytbkajbjhffdlfaadoor", sum := "949217129d5ff23cf5d6beea22371111b8902d6430c20e3de2413ee061c48265", func := "paddock/paddockkeep.ZoneWhole", spec := "zoneWhole", inPlace := ["slices.overlaps[paddock/api.Block]"], unfollowed := true, recurses := true, named := ["paddock/buddy.others"], apart := false, laid := [("paddock/buddy.others", laid_paddock_buddy_others)] }
def ZoneWholeSaid : Prop := zoneWholeRow.holds Tryd.pinned (OpenSpec.ofChange zoneWholeSpec)

/-- ITS FALSE NEIGHBOUR: 'it returns false'. Refute it at one input. -/
def zoneWholeWrong : ChangeSpec := { name := "zoneWhole", fn := fun _ => fun
  | [d] => { results := [.lit (.bool false)], args := [d] }
  | _ => none }
def ZoneWholeWrongFalsely : Prop := zoneWholeRow.holds Tryd.pinned (OpenSpec.ofChange zoneWholeWrong)

/- THE SECOND FORM. 'bulk': how many values and letters a reading holds, each counted each time it is reached (what is shared counts as often as it is met; a slice's spare places count too). A statement '..UptoSaid' is the law's where the arguments, and the package variables that the reading takes, are together of bulk at most 1048576: NARROWER than '..Said'. Prove '..Said' where nothing that the law and all that it calls make is longer than what came in: it says more and counts as full. Else prove '..UptoSaid'. A law counts once. -/
mutual
def uptoBulk {H : Type} : DataW H → Nat
  | .lit (.string bytes) => bytes.length + 1
  | .lit _ => 1
  | .nil => 1
  | .ptr d => uptoBulk d + 1
  | .slice elems spare => uptoBulkAll elems + uptoBulkAll spare + 1
  | .agg parts => uptoBulkAll parts + 1
  | .iface _ d => uptoBulk d + 1
  | .map entries => uptoBulkEntries entries + 1
  | .held _ => 1
def uptoBulkAll {H : Type} : List (DataW H) → Nat
  | [] => 0
  | d :: r => uptoBulk d + uptoBulkAll r
def uptoBulkEntries {H : Type} : List (Lit × DataW H) → Nat
  | [] => 0
  | x :: r => uptoBulkEntry x + uptoBulkEntries r
def uptoBulkEntry {H : Type} : Lit × DataW H → Nat
  | (.string bytes, d) => bytes.length + uptoBulk d + 1
  | (_, d) => uptoBulk d + 1
 end
def uptoSmall : (H : Type) → List (DataW H) → Bool := fun _ ds => decide (uptoBulkAll ds ≤ 1048576)
def OpenSpec.upto (s : _root_.Go.ChangeSpec) : _root_.Go.OpenSpec := { _root_.Go.OpenSpec.ofChange s with cond := some uptoSmall }

/-- 'paddockkeep.ZoneGood', WHERE WHAT IT READS IS OF BULK AT MOST 1048576: true; the input reads as it did. -/
def zoneGoodUptoRow : OpenClaim := { program := "ytbkajbjhffdlfaadoor", sum := "949217129d5ff23cf5d6beea22371111b8902d6430c20e3de2413ee061c48265", func := "paddock/paddockkeep.ZoneGood", spec := "zoneGood", inPlace := ["slices.overlaps[paddock/api.Block]"], unfollowed := true, recurses := true, named := ["paddock/buddy.others"], apart := false, laid := [("paddock/buddy.others", laid_paddock_buddy_others)], narrowed := true }
def ZoneGoodUptoSaid : Prop := zoneGoodUptoRow.holds Tryd.pinned (OpenSpec.upto zoneGoodSpec)

/-- 'paddockkeep.ZoneApart', WHERE WHAT IT READS IS OF BULK AT MOST 1048576: true; the input reads as it did. -/
def zoneApartUptoRow : OpenClaim := { program := "ytbkajbjhffdlfaadoor", sum := "949217129d5ff23cf5d6beea22371111b8902d6430c20e3de2413ee061c48265", func := "paddock/paddockkeep.ZoneApart", spec := "zoneApart", inPlace := ["slices.overlaps[paddock/api.Block]"], unfollowed := true, recurses := true, named := ["paddock/buddy.others"], apart := false, laid := [("paddock/buddy.others", laid_paddock_buddy_others)], narrowed := true }
def ZoneApartUptoSaid : Prop := zoneApartUptoRow.holds Tryd.pinned (OpenSpec.upto zoneApartSpec)

/-- 'paddockkeep.ZoneFull', WHERE WHAT IT READS IS OF BULK AT MOST 1048576: true; the input reads as it did. -/
def zoneFullUptoRow : OpenClaim := { program := "ytbkajbjhffdlfaadoor", sum := "949217129d5ff23cf5d6beea22371111b8902d6430c20e3de2413ee061c48265", func := "paddock/paddockkeep.ZoneFull", spec := "zoneFull", inPlace := ["slices.overlaps[paddock/api.Block]"], unfollowed := true, recurses := true, named := ["paddock/buddy.others"], apart := false, laid := [("paddock/buddy.others", laid_paddock_buddy_others)], narrowed := true }
def ZoneFullUptoSaid : Prop := zoneFullUptoRow.holds Tryd.pinned (OpenSpec.upto zoneFullSpec)

/-- 'paddockkeep.ZoneTypes', WHERE WHAT IT READS IS OF BULK AT MOST 1048576: true; the input reads as it did. -/
def zoneTypesUptoRow : OpenClaim := { program := "ytbkajbjhffdlfaadoor", sum := "949217129d5ff23cf5d6beea22371111b8902d6430c20e3de2413ee061c48265", func := "paddock/paddockkeep.ZoneTypes", spec := "zoneTypes", inPlace := ["slices.overlaps[paddock/api.Block]"], unfollowed := true, recurses := true, named := ["paddock/buddy.others"], apart := false, laid := [("paddock/buddy.others", laid_paddock_buddy_others)], narrowed := true }
def ZoneTypesUptoSaid : Prop := zoneTypesUptoRow.holds Tryd.pinned (OpenSpec.upto zoneTypesSpec)

/-- 'paddockkeep.ZoneTwice', WHERE WHAT IT READS IS OF BULK AT MOST 1048576: true; the input reads as it did. -/
def zoneTwiceUptoRow : OpenClaim := { program := "ytbkajbjhffdlfaadoor", sum := "949217129d5ff23cf5d6beea22371111b8902d6430c20e3de2413ee061c48265", func := "paddock/paddockkeep.ZoneTwice", spec := "zoneTwice", inPlace := ["slices.overlaps[paddock/api.Block]"], unfollowed := true, recurses := true, named := ["paddock/buddy.others"], apart := false, laid := [("paddock/buddy.others", laid_paddock_buddy_others)], narrowed := true }
def ZoneTwiceUptoSaid : Prop := zoneTwiceUptoRow.holds Tryd.pinned (OpenSpec.upto zoneTwiceSpec)

/-- 'paddockkeep.ZoneWhole', WHERE WHAT IT READS IS OF BULK AT MOST 1048576: true; the input reads as it did. -/
def zoneWholeUptoRow : OpenClaim := { program := "ytbkajbjhffdlfaadoor", sum := "949217129d5ff23cf5d6beea22371111b8902d6430c20e3de2413ee061c48265", func := "paddock/paddockkeep.ZoneWhole", spec := "zoneWhole", inPlace := ["slices.overlaps[paddock/api.Block]"], unfollowed := true, recurses := true, named := ["paddock/buddy.others"], apart := false, laid := [("paddock/buddy.others", laid_paddock_buddy_others)], narrowed := true }
def ZoneWholeUptoSaid : Prop := zoneWholeUptoRow.holds Tryd.pinned (OpenSpec.upto zoneWholeSpec)

end Rows
end Go.Proofs.YtbkajbjhffdlfaaDoor
