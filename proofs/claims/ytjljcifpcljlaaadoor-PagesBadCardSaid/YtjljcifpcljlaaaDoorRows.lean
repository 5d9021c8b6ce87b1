/-
  NARROWER THAN 'FOR EVERY INPUT', by the rows' own cells (each row's printed sentence says how): PagesGood: laid · PagesApart: laid · PagesRoom: laid · PagesHeld: laid · PagesLists: laid · PagesBad: laid · PagesWhole: laid.
  DERIVED. THE GIVEN ROWS OF THIS SEAT. 7 by the template 'for every input the law returns true; each argument reads behind the call as it read before'; 0 by the template 'total and deterministic' (their statements: YtjljcifpcljlaaaDoorTotals.lean).
  GIVEN WITH THE SEED: the statements are not yours to turn. If you find one false, say at which input.
  Laid BY PROGRAM, IN A SANDBOX (cutbox-rows.mjs): the forced cells as the released guide's own fill.sh prints them over the translation a8de4b33f444ae92… (all of the seat's roots in one cut). By AI agents, Wed Nov 11 2026. No macro, syntax, notation, axiom, sorry.
-/
import Derived.Test.YtjljcifpcljlaaaDoorChecked
import GoSem.Claim
import GoSem.ClaimJoined
import GoSem.ClaimMapViews
import Derived.JoinedTies
import Derived.KernelRfl
namespace Go.Proofs.YtjljcifpcljlaaaDoor
/- THE CELL 'sum', in the pinned program and in every row, IS THE sha256 OF THE DUMP (.gsa) THAT YtjljcifpcljlaaaDoorProg.lean LOADS. Nothing in Lean hashes anything: it is a label: what it is worth is what the hold of that sum in a sandbox is worth. -/
noncomputable def Tryd.pinned : Pinned := { name := "ytjljcifpcljlaaadoor", sum := "a8de4b33f444ae925419a1cd6d7280f264dfb7979c7d6668e1c8c4769d360cca", checked := Tryd.checked }
namespace Rows
def none {H : Type} : Left H := { results := [], args := [] }

/- WHAT THE LISTED PACKAGE-LEVEL VARIABLES READ AS WHEN THE CALL BEGINS. Each datum BY PROGRAM (the guide's laid-datum.mjs) off the statement by which the dump's own 'gosem.cut.vars' lays the variable. In a bare row this is a premise. The card (YtjljcifpcljlaaaDoorCards.lean) ties it to the program's text. -/
def laid_paddock_buddy_others {H : Type} : DataW H := .agg [.agg [.lit (.int .i64 2), .lit (.int .i64 1)], .agg [.lit (.int .i64 2), .lit (.int .i64 0)], .agg [.lit (.int .i64 0), .lit (.int .i64 1)]]

/-- 'paddockkeep.PagesGood': WHATEVER THE INPUT: true; the input reads as it did. -/
def pagesGoodSpec : ChangeSpec := { name := "pagesGood", fn := fun _ => fun
  | [d1, d2, d3, d4] => { results := [.lit (.bool true)], args := [d1, d2, d3, d4] }
  | _ => none }
def pagesGoodRow : OpenClaim := { program := "ytjljcifpcljlaaadoor", sum := "a8de4b33f444ae925419a1cd6d7280f264dfb7979c7d6668e1c8c4769d360cca", func := "paddock/paddockkeep.PagesGood", spec := "pagesGood", inPlace := ["slices.overlaps[paddock/api.Block]", "slices.overlaps[paddock/api.List]"], unfollowed := true, recurses := true, named := ["paddock/buddy.others"], apart := false, laid := [("paddock/buddy.others", laid_paddock_buddy_others)] }
def PagesGoodSaid : Prop := pagesGoodRow.holds Tryd.pinned (OpenSpec.ofChange pagesGoodSpec)

/-- ITS FALSE NEIGHBOUR: 'it returns false'. Refute it at one input. -/
def pagesGoodWrong : ChangeSpec := { name := "pagesGood", fn := fun _ => fun
  | [d1, d2, d3, d4] => { results := [.lit (.bool false)], args := [d1, d2, d3, d4] }
  | _ => none }
def PagesGoodWrongFalsely : Prop := pagesGoodRow.holds Tryd.pinned (OpenSpec.ofChange pagesGoodWrong)

/-- 'paddockkeep.PagesApart': WHATEVER THE INPUT: true; the input reads as it did. -/
def pagesApartSpec : ChangeSpec := { name := "pagesApart", fn := fun _ => fun
  | [d1, d2, d3, d4] => { results := [.lit (.bool true)], args := [d1, d2, d3, d4] }
  | _ => none }
def pagesApartRow : OpenClaim := { program := "ytjljcifpcljlaaadoor", sum := "a8de4b33f444ae925419a1cd6d7280f264dfb7979c7d6668e1c8c4769d360cca", func := "paddock/paddockkeep.PagesApart", spec := "pagesApart", inPlace := ["slices.overlaps[paddock/api.Block]", "slices.overlaps[paddock/api.List]"], unfollowed := true, recurses := true, named := ["paddock/buddy.others"], apart := false, laid := [("paddock/buddy.others", laid_paddock_buddy_others)] }
def PagesApartSaid : Prop := pagesApartRow.holds Tryd.pinned (OpenSpec.ofChange pagesApartSpec)

/-- ITS FALSE NEIGHBOUR: 'it returns false'. Refute it at one input. -/
def pagesApartWrong : ChangeSpec := { name := "pagesApart", fn := fun _ => fun
  | [d1, d2, d3, d4] => { results := [.lit (.bool false)], args := [d1, d2, d3, d4] }
  | _ => none }
def PagesApartWrongFalsely : Prop := pagesApartRow.holds Tryd.pinned (OpenSpec.ofChange pagesApartWrong)

/-- 'paddockkeep.PagesRoom': WHATEVER THE INPUT: true; the input reads as it did. -/
def pagesRoomSpec : ChangeSpec := { name := "pagesRoom", fn := fun _ => fun
  | [d1, d2, d3, d4, d5] => { results := [.lit (.bool true)], args := [d1, d2, d3, d4, d5] }
  | _ => none }
def pagesRoomRow : OpenClaim := { program := "ytjljcifpcljlaaadoor", sum := "a8de4b33f444ae925419a1cd6d7280f264dfb7979c7d6668e1c8c4769d360cca", func := "paddock/paddockkeep.PagesRoom", spec := "pagesRoom", inPlace := ["slices.overlaps[paddock/api.Block]", "slices.overlaps[paddock/api.List]"], unfollowed := true, recurses := true, named := ["paddock/buddy.others"], apart := false, laid := [("paddock/buddy.others", laid_paddock_buddy_others)] }
def PagesRoomSaid : Prop := pagesRoomRow.holds Tryd.pinned (OpenSpec.ofChange pagesRoomSpec)

/-- ITS FALSE NEIGHBOUR: 'it returns false'. Refute it at one input. -/
def pagesRoomWrong : ChangeSpec := { name := "pagesRoom", fn := fun _ => fun
  | [d1, d2, d3, d4, d5] => { results := [.lit (.bool false)], args := [d1, d2, d3, d4, d5] }
  | _ => none }
def PagesRoomWrongFalsely : Prop := pagesRoomRow.holds Tryd.pinned (OpenSpec.ofChange pagesRoomWrong)

/-- 'paddockkeep.PagesHeld': WHATEVER THE INPUT: true; the input reads as it did. -/
def pagesHeldSpec : ChangeSpec := { name := "pagesHeld", fn := fun _ => fun
  | [d1, d2, d3, d4] => { results := [.lit (.bool true)], args := [d1, d2, d3, d4] }
  | _ => none }
def pagesHeldRow : OpenClaim := { program := "ytjljcifpcljlaaadoor", sum := "a8de4b33f444ae925419a1cd6d7280f264dfb7979c7d6668e1c8c4769d360cca", func := "paddock/paddockkeep.PagesHeld", spec := "pagesHeld", inPlace := ["slices.overlaps[paddock/api.Block]", "slices.overlaps[paddock/api.List]"], unfollowed := true, recurses := true, named := ["paddock/buddy.others"], apart := false, laid := [("paddock/buddy.others", laid_paddock_buddy_others)] }
def PagesHeldSaid : Prop := pagesHeldRow.holds Tryd.pinned (OpenSpec.ofChange pagesHeldSpec)

/-- ITS FALSE NEIGHBOUR: 'it returns false'. Refute it at one input. -/
def pagesHeldWrong : ChangeSpec := { name := "pagesHeld", fn := fun _ => fun
  | [d1, d2, d3, d4] => { results := [.lit (.bool false)], args := [d1, d2, d3, d4] }
  | _ => none }
def PagesHeldWrongFalsely : Prop := pagesHeldRow.holds Tryd.pinned (OpenSpec.ofChange pagesHeldWrong)

/-- 'paddockkeep.PagesLists': WHATEVER THE INPUT: true; the input reads as it did. -/
def pagesListsSpec : ChangeSpec := { name := "pagesLists", fn := fun _ => fun
  | [d1, d2, d3, d4] => { results := [.lit (.bool true)], args := [d1, d2, d3, d4] }
  | _ => none }
def pagesListsRow : OpenClaim := { program := "ytjljcifpcljlaaadoor", sum := "a8de4b33f444ae925419a1cd6d7280f264dfb7979c7d6668e1c8c4769d360cca", func := "paddock/paddockkeep.PagesLists", spec := "pagesLists", inPlace := ["slices.overlaps[paddock/api.Block]", "slices.overlaps[paddock/api.List]"], unfollowed := true, recurses := true, named := ["paddock/buddy.others"], apart := false, laid := [("paddock/buddy.others", laid_paddock_buddy_others)] }
def PagesListsSaid : Prop := pagesListsRow.holds Tryd.pinned (OpenSpec.ofChange pagesListsSpec)

/-- ITS FALSE NEIGHBOUR: 'it returns false'. Refute it at one input. -/
def pagesListsWrong : ChangeSpec := { name := "pagesLists", fn := fun _ => fun
  | [d1, d2, d3, d4] => { results := [.lit (.bool false)], args := [d1, d2, d3, d4] }
  | _ => none }
def PagesListsWrongFalsely : Prop := pagesListsRow.holds Tryd.pinned (OpenSpec.ofChange pagesListsWrong)

/-- 'paddockkeep.PagesBad': WHATEVER THE INPUT: true; the input reads as it did. -/
def pagesBadSpec : ChangeSpec := { name := "pagesBad", fn := fun _ => fun
  | [d1, d2, d3, d4, d5] => { results := [.lit (.bool true)], args := [d1, d2, d3, d4, d5] }
  | _ => none }
def pagesBadRow : OpenClaim := { program := "ytjljcifpcljlaaadoor", sum := "a8de4b33f444ae925419a1cd6d7280f264dfb7979c7d6668e1c8c4769d360cca", func := "paddock/paddockkeep.PagesBad", spec := "pagesBad", inPlace := ["slices.overlaps[paddock/api.Block]", "slices.overlaps[paddock/api.List]"], unfollowed := true, recurses := true, named := ["paddock/buddy.others"], apart := false, laid := [("paddock/buddy.others", laid_paddock_buddy_others)] }
def PagesBadSaid : Prop := pagesBadRow.holds Tryd.pinned (OpenSpec.ofChange pagesBadSpec)

/-- ITS FALSE NEIGHBOUR: 'it returns false'. Refute it at one input. -/
def pagesBadWrong : ChangeSpec := { name := "pagesBad", fn := fun _ => fun
  | [d1, d2, d3, d4, d5] => { results := [.lit (.bool false)], args := [d1, d2, d3, d4, d5] }
  | _ => none }
def PagesBadWrongFalsely : Prop := pagesBadRow.holds Tryd.pinned (OpenSpec.ofChange pagesBadWrong)

/-- 'paddockkeep.PagesWhole': WHATEVER THE INPUT: true; the input reads as it did. -/
def pagesWholeSpec : ChangeSpec := { name := "pagesWhole", fn := fun _ => fun
  | [d1, d2, d3, d4] => { results := [.lit (.bool true)], args := [d1, d2, d3, d4] }
  | _ => none }
def pagesWholeRow : OpenClaim := { program := "ytjljcifpcljlaaadoor", sum := "a8de4b33f444ae925419a1cd6d7280f264dfb7979c7d6668e1c8c4769d360cca", func := "paddock/paddockkeep.PagesWhole", spec := "pagesWhole", inPlace := ["slices.overlaps[paddock/api.Block]", "slices.overlaps[paddock/api.List]"], unfollowed := true, recurses := true, named := ["paddock/buddy.others"], apart := false, laid := [("paddock/buddy.others", laid_paddock_buddy_others)] }
def PagesWholeSaid : Prop := pagesWholeRow.holds Tryd.pinned (OpenSpec.ofChange pagesWholeSpec)

/-- ITS FALSE NEIGHBOUR: 'it returns false'. Refute it at one input. -/
def pagesWholeWrong : ChangeSpec := { name := "pagesWhole", fn := fun _ => fun
  | [d1, d2, d3, d4] => { results := [.lit (.bool false)], args := [d1, d2, d3, d4] }
  | _ => none }
def PagesWholeWrongFalsely : Prop := pagesWholeRow.holds Tryd.pinned (OpenSpec.ofChange pagesWholeWrong)

/- THE SECOND FORM. 'bulk': how many values and letters a reading holds, each counted each time it is reached (what is shared counts as often as it is met; a slice's spare places count too). A statement '..UptoSaid' is the law's where the arguments, and the package variables that the reading takes, are together of bulk at most 1048576: NARROWER than '..Said'. Prove '..Said' where nothing that the law and all that it calls make is longer than what came in: it says more and counts as full. Else prove '..UptoSaid'. A law counts once. -/
mutual
def uptoBulk {H : Type} : DataW H → Nat
  | .lit (.string bytes) => bytes.length + 1
  | .lit _ => 1
  | .nil => 1
  | .ptr d => uptoBulk d + 1
  | .slice elems spare => uptoBulkAll elems + uptoBulkAll spare + 1
  | .agg parts => uptoBulkAll parts + 1
  | .iface _ d => uptoBulk d + 1
  | .map entries => uptoBulkEntries entries + 1
  | .held _ => 1
def uptoBulkAll {H : Type} : List (DataW H) → Nat
  | [] => 0
  | d :: r => uptoBulk d + uptoBulkAll r
def uptoBulkEntries {H : Type} : List (Lit × DataW H) → Nat
  | [] => 0
  | x :: r => uptoBulkEntry x + uptoBulkEntries r
def uptoBulkEntry {H : Type} : Lit × DataW H → Nat
  | (.string bytes, d) => bytes.length + uptoBulk d + 1
  | (_, d) => uptoBulk d + 1
 end
def uptoSmall : (H : Type) → List (DataW H) → Bool := fun _ ds => decide (uptoBulkAll ds ≤ 1048576)
def OpenSpec.upto (s : _root_.Go.ChangeSpec) : _root_.Go.OpenSpec := { _root_.Go.OpenSpec.ofChange s with cond := some uptoSmall }

/-- 'paddockkeep.PagesGood', WHERE WHAT IT READS IS OF BULK AT MOST 1048576: true; the input reads as it did. -/
def pagesGoodUptoRow : OpenClaim := { program := "ytjljcifpcljlaaadoor", sum := "a8de4b33f444ae925419a1cd6d7280f264dfb7979c7d6668e1c8c4769d360cca", func := "paddock/paddockkeep.PagesGood", spec := "pagesGood", inPlace := ["slices.overlaps[paddock/api.Block]", "slices.overlaps[paddock/api.List]"], unfollowed := true, recurses := true, named := ["paddock/buddy.others"], apart := false, laid := [("paddock/buddy.others", laid_paddock_buddy_others)], narrowed := true }
def PagesGoodUptoSaid : Prop := pagesGoodUptoRow.holds Tryd.pinned (OpenSpec.upto pagesGoodSpec)

/-- 'paddockkeep.PagesApart', WHERE WHAT IT READS IS OF BULK AT MOST 1048576: true; the input reads as it did. -/
def pagesApartUptoRow : OpenClaim := { program := "ytjljcifpcljlaaadoor", sum := "a8de4b33f444ae925419a1cd6d7280f264dfb7979c7d6668e1c8c4769d360cca", func := "paddock/paddockkeep.PagesApart", spec := "pagesApart", inPlace := ["slices.overlaps[paddock/api.Block]", "slices.overlaps[paddock/api.List]"], unfollowed := true, recurses := true, named := ["paddock/buddy.others"], apart := false, laid := [("paddock/buddy.others", laid_paddock_buddy_others)], narrowed := true }
def PagesApartUptoSaid : Prop := pagesApartUptoRow.holds Tryd.pinned (OpenSpec.upto pagesApartSpec)

/-- 'paddockkeep.PagesRoom', WHERE WHAT IT READS IS OF BULK AT MOST 1048576: true; the input reads as it did. -/
def pagesRoomUptoRow : OpenClaim := { program := "ytjljcifpcljlaaadoor", sum := "a8de4b33f444ae925419a1cd6d7280f264dfb7979c7d6668e1c8c4769d360cca", func := "paddock/paddockkeep.PagesRoom", spec := "pagesRoom", inPlace := ["slices.overlaps[paddock/api.Block]", "slices.overlaps[paddock/api.List]"], unfollowed := true, recurses := true, named := ["paddock/buddy.others"], apart := false, laid := [("paddock/buddy.others", laid_paddock_buddy_others)], narrowed := true }
def PagesRoomUptoSaid : Prop := pagesRoomUptoRow.holds Tryd.pinned (OpenSpec.upto pagesRoomSpec)

/-- 'paddockkeep.PagesHeld', WHERE WHAT IT READS IS OF BULK AT MOST 1048576: true; the input reads as it did. -/
def pagesHeldUptoRow : OpenClaim := { program := "ytjljcifpcljlaaadoor", sum := "a8de4b33f444ae925419a1cd6d7280f264dfb7979c7d6668e1c8c4769d360cca", func := "paddock/paddockkeep.PagesHeld", spec := "pagesHeld", inPlace := ["slices.overlaps[paddock/api.Block]", "slices.overlaps[paddock/api.List]"], unfollowed := true, recurses := true, named := ["paddock/buddy.others"], apart := false, laid := [("paddock/buddy.others", laid_paddock_buddy_others)], narrowed := true }
def PagesHeldUptoSaid : Prop := pagesHeldUptoRow.holds Tryd.pinned (OpenSpec.upto pagesHeldSpec)

/-- 'paddockkeep.PagesLists', WHERE WHAT IT READS IS OF BULK AT MOST 1048576: true; the input reads as it did. -/
def pagesListsUptoRow : OpenClaim := { program := "ytjljcifpcljlaaadoor", sum := "a8de4b33f444ae925419a1cd6d7280f264dfb7979c7d6668e1c8c4769d360cca", func := "paddock/paddockkeep.PagesLists", spec := "pagesLists", inPlace := ["slices.overlaps[paddock/api.Block]", "slices.overlaps[paddock/api.List]"], unfollowed := true, recurses := true, named := ["paddock/buddy.others"], apart := false, laid := [("paddock/buddy.others", laid_paddock_buddy_others)], narrowed := true }
def PagesListsUptoSaid : Prop := pagesListsUptoRow.holds Tryd.pinned (OpenSpec.upto pagesListsSpec)

/-- 'paddockkeep.PagesBad', WHERE WHAT IT READS IS OF BULK AT MOST 1048576: true; the input reads as it did. -/
def pagesBadUptoRow : OpenClaim := { program := "ytjljcifpcljlaaadoor", sum := "a8de4b33f444ae925419a1cd6d7280f264dfb7979c7d6668e1c8c4769d360cca", func := "paddock/paddockkeep.PagesBad", spec := "pagesBad", inPlace := ["slices.overlaps[paddock/api.Block]", "slices.overlaps[paddock/api.List]"], unfollowed := true, recurses := true, named := ["paddock/buddy.others"], apart := false, laid := [("paddock/buddy.others", laid_paddock_buddy_others)], narrowed := true }
def PagesBadUptoSaid : Prop := pagesBadUptoRow.holds Tryd.pinned (OpenSpec.upto pagesBadSpec)

/-- 'paddockkeep.PagesWhole', WHERE WHAT IT READS IS OF BULK AT MOST 1048576: true; the input reads as it did. -/
def pagesWholeUptoRow : OpenClaim := { program := "ytjljcifpcljlaaadoor", sum := "a8de4b33f444ae925419a1cd6d7280f264dfb7979c7d6668e1c8c4769d360cca", func := "paddock/paddockkeep.PagesWhole", spec := "pagesWhole", inPlace := ["slices.overlaps[paddock/api.Block]", "slices.overlaps[paddock/api.List]"], unfollowed := true, recurses := true, named := ["paddock/buddy.others"], apart := false, laid := [("paddock/buddy.others", laid_paddock_buddy_others)], narrowed := true }
def PagesWholeUptoSaid : Prop := pagesWholeUptoRow.holds Tryd.pinned (OpenSpec.upto pagesWholeSpec)

end Rows
end Go.Proofs.YtjljcifpcljlaaaDoor
