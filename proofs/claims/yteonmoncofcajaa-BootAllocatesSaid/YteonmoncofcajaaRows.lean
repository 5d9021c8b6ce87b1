/-
  No cell of these rows narrows 'for every input' (looked for: loops, veiled, ifaces, maps, wideKeys, modest, calm, conditions, laid).
  DERIVED. THE GIVEN ROWS OF THIS SEAT. 8 by the template 'for every input the law returns true; each argument reads behind the call as it read before'; 0 by the template 'total and deterministic' (their statements: YteonmoncofcajaaTotals.lean).
  GIVEN WITH THE SEED: the statements are not yours to turn. If you find one false, say at which input.
  Laid BY PROGRAM, IN A SANDBOX (cutbox-rows.mjs): the forced cells as the released guide's own fill.sh prints them over the translation 909fc1679435d1c0… (all of the seat's roots in one cut). By AI agents, Wed Nov 11 2026. No macro, syntax, notation, axiom, sorry.
-/
import Derived.Test.YteonmoncofcajaaChecked
import GoSem.Claim
import GoSem.ClaimJoined
import GoSem.ClaimMapViews
import Derived.JoinedTies
import Derived.KernelRfl
namespace Go.Proofs.Yteonmoncofcajaa
/- THE CELL 'sum', in the pinned program and in every row, IS THE sha256 OF THE DUMP (.gsa) THAT YteonmoncofcajaaProg.lean LOADS. Nothing in Lean hashes anything: it is a label: what it is worth is what the hold of that sum in a sandbox is worth. -/
noncomputable def Try.pinned : Pinned := { name := "yteonmoncofcajaa", sum := "909fc1679435d1c01477a828917b06a7f835815dd2001549f1b081ed42b66511", checked := Try.checked }
namespace Rows
def none {H : Type} : Left H := { results := [], args := [] }

/-- 'paddockkeep.LayoutFits': WHATEVER THE INPUT: true; the input reads as it did. -/
def layoutFitsSpec : ChangeSpec := { name := "layoutFits", fn := fun _ => fun
  | [d] => { results := [.lit (.bool true)], args := [d] }
  | _ => none }
def layoutFitsRow : OpenClaim := { program := "yteonmoncofcajaa", sum := "909fc1679435d1c01477a828917b06a7f835815dd2001549f1b081ed42b66511", func := "paddock/paddockkeep.LayoutFits", spec := "layoutFits", apart := false }
def LayoutFitsSaid : Prop := layoutFitsRow.holds Try.pinned (OpenSpec.ofChange layoutFitsSpec)

/-- ITS FALSE NEIGHBOUR: 'it returns false'. Refute it at one input. -/
def layoutFitsWrong : ChangeSpec := { name := "layoutFits", fn := fun _ => fun
  | [d] => { results := [.lit (.bool false)], args := [d] }
  | _ => none }
def LayoutFitsWrongFalsely : Prop := layoutFitsRow.holds Try.pinned (OpenSpec.ofChange layoutFitsWrong)

/-- 'paddockkeep.FollowRing': WHATEVER THE INPUT: true; the input reads as it did. -/
def followRingSpec : ChangeSpec := { name := "followRing", fn := fun _ => fun
  | [d] => { results := [.lit (.bool true)], args := [d] }
  | _ => none }
def followRingRow : OpenClaim := { program := "yteonmoncofcajaa", sum := "909fc1679435d1c01477a828917b06a7f835815dd2001549f1b081ed42b66511", func := "paddock/paddockkeep.FollowRing", spec := "followRing", apart := false }
def FollowRingSaid : Prop := followRingRow.holds Try.pinned (OpenSpec.ofChange followRingSpec)

/-- ITS FALSE NEIGHBOUR: 'it returns false'. Refute it at one input. -/
def followRingWrong : ChangeSpec := { name := "followRing", fn := fun _ => fun
  | [d] => { results := [.lit (.bool false)], args := [d] }
  | _ => none }
def FollowRingWrongFalsely : Prop := followRingRow.holds Try.pinned (OpenSpec.ofChange followRingWrong)

/-- 'paddockkeep.MoveKeeps': WHATEVER THE INPUT: true; the input reads as it did. -/
def moveKeepsSpec : ChangeSpec := { name := "moveKeeps", fn := fun _ => fun
  | [d1, d2, d3, d4] => { results := [.lit (.bool true)], args := [d1, d2, d3, d4] }
  | _ => none }
def moveKeepsRow : OpenClaim := { program := "yteonmoncofcajaa", sum := "909fc1679435d1c01477a828917b06a7f835815dd2001549f1b081ed42b66511", func := "paddock/paddockkeep.MoveKeeps", spec := "moveKeeps", apart := false }
def MoveKeepsSaid : Prop := moveKeepsRow.holds Try.pinned (OpenSpec.ofChange moveKeepsSpec)

/-- ITS FALSE NEIGHBOUR: 'it returns false'. Refute it at one input. -/
def moveKeepsWrong : ChangeSpec := { name := "moveKeeps", fn := fun _ => fun
  | [d1, d2, d3, d4] => { results := [.lit (.bool false)], args := [d1, d2, d3, d4] }
  | _ => none }
def MoveKeepsWrongFalsely : Prop := moveKeepsRow.holds Try.pinned (OpenSpec.ofChange moveKeepsWrong)

/-- 'paddockkeep.StoreLoads': WHATEVER THE INPUT: true; the input reads as it did. -/
def storeLoadsSpec : ChangeSpec := { name := "storeLoads", fn := fun _ => fun
  | [d1, d2, d3, d4] => { results := [.lit (.bool true)], args := [d1, d2, d3, d4] }
  | _ => none }
def storeLoadsRow : OpenClaim := { program := "yteonmoncofcajaa", sum := "909fc1679435d1c01477a828917b06a7f835815dd2001549f1b081ed42b66511", func := "paddock/paddockkeep.StoreLoads", spec := "storeLoads", apart := false }
def StoreLoadsSaid : Prop := storeLoadsRow.holds Try.pinned (OpenSpec.ofChange storeLoadsSpec)

/-- ITS FALSE NEIGHBOUR: 'it returns false'. Refute it at one input. -/
def storeLoadsWrong : ChangeSpec := { name := "storeLoads", fn := fun _ => fun
  | [d1, d2, d3, d4] => { results := [.lit (.bool false)], args := [d1, d2, d3, d4] }
  | _ => none }
def StoreLoadsWrongFalsely : Prop := storeLoadsRow.holds Try.pinned (OpenSpec.ofChange storeLoadsWrong)

/-- 'paddockkeep.ChainFollows': WHATEVER THE INPUT: true; the input reads as it did. -/
def chainFollowsSpec : ChangeSpec := { name := "chainFollows", fn := fun _ => fun
  | [d1, d2, d3] => { results := [.lit (.bool true)], args := [d1, d2, d3] }
  | _ => none }
def chainFollowsRow : OpenClaim := { program := "yteonmoncofcajaa", sum := "909fc1679435d1c01477a828917b06a7f835815dd2001549f1b081ed42b66511", func := "paddock/paddockkeep.ChainFollows", spec := "chainFollows", apart := false }
def ChainFollowsSaid : Prop := chainFollowsRow.holds Try.pinned (OpenSpec.ofChange chainFollowsSpec)

/-- ITS FALSE NEIGHBOUR: 'it returns false'. Refute it at one input. -/
def chainFollowsWrong : ChangeSpec := { name := "chainFollows", fn := fun _ => fun
  | [d1, d2, d3] => { results := [.lit (.bool false)], args := [d1, d2, d3] }
  | _ => none }
def ChainFollowsWrongFalsely : Prop := chainFollowsRow.holds Try.pinned (OpenSpec.ofChange chainFollowsWrong)

/-- 'paddockkeep.BootPages': WHATEVER THE INPUT: true; the input reads as it did. -/
def bootPagesSpec : ChangeSpec := { name := "bootPages", fn := fun _ => fun
  | [d] => { results := [.lit (.bool true)], args := [d] }
  | _ => none }
def bootPagesRow : OpenClaim := { program := "yteonmoncofcajaa", sum := "909fc1679435d1c01477a828917b06a7f835815dd2001549f1b081ed42b66511", func := "paddock/paddockkeep.BootPages", spec := "bootPages", unfollowed := true, recurses := true, apart := false }
def BootPagesSaid : Prop := bootPagesRow.holds Try.pinned (OpenSpec.ofChange bootPagesSpec)

/-- ITS FALSE NEIGHBOUR: 'it returns false'. Refute it at one input. -/
def bootPagesWrong : ChangeSpec := { name := "bootPages", fn := fun _ => fun
  | [d] => { results := [.lit (.bool false)], args := [d] }
  | _ => none }
def BootPagesWrongFalsely : Prop := bootPagesRow.holds Try.pinned (OpenSpec.ofChange bootPagesWrong)

/-- 'paddockkeep.BootEnds': WHATEVER THE INPUT: true; the input reads as it did. -/
def bootEndsSpec : ChangeSpec := { name := "bootEnds", fn := fun _ => fun
  | [d1, d2] => { results := [.lit (.bool true)], args := [d1, d2] }
  | _ => none }
def bootEndsRow : OpenClaim := { program := "yteonmoncofcajaa", sum := "909fc1679435d1c01477a828917b06a7f835815dd2001549f1b081ed42b66511", func := "paddock/paddockkeep.BootEnds", spec := "bootEnds", unfollowed := true, recurses := true, apart := false }
def BootEndsSaid : Prop := bootEndsRow.holds Try.pinned (OpenSpec.ofChange bootEndsSpec)

/-- ITS FALSE NEIGHBOUR: 'it returns false'. Refute it at one input. -/
def bootEndsWrong : ChangeSpec := { name := "bootEnds", fn := fun _ => fun
  | [d1, d2] => { results := [.lit (.bool false)], args := [d1, d2] }
  | _ => none }
def BootEndsWrongFalsely : Prop := bootEndsRow.holds Try.pinned (OpenSpec.ofChange bootEndsWrong)

/-- 'paddockkeep.BootAllocates': WHATEVER THE INPUT: true; the input reads as it did. -/
def bootAllocatesSpec : ChangeSpec := { name := "bootAllocates", fn := fun _ => fun
  | [d1, d2, d3, d4] => { results := [.lit (.bool true)], args := [d1, d2, d3, d4] }
  | _ => none }
def bootAllocatesRow : OpenClaim := { program := "yteonmoncofcajaa", sum := "909fc1679435d1c01477a828917b06a7f835815dd2001549f1b081ed42b66511", func := "paddock/paddockkeep.BootAllocates", spec := "bootAllocates", unfollowed := true, recurses := true, apart := false }
def BootAllocatesSaid : Prop := bootAllocatesRow.holds Try.pinned (OpenSpec.ofChange bootAllocatesSpec)

/-- ITS FALSE NEIGHBOUR: 'it returns false'. Refute it at one input. -/
def bootAllocatesWrong : ChangeSpec := { name := "bootAllocates", fn := fun _ => fun
  | [d1, d2, d3, d4] => { results := [.lit (.bool false)], args := [d1, d2, d3, d4] }
  | _ => none }
def BootAllocatesWrongFalsely : Prop := bootAllocatesRow.holds Try.pinned (OpenSpec.ofChange bootAllocatesWrong)

/- THE SECOND FORM. 'bulk': how many values and letters a reading holds, each counted each time it is reached (what is shared counts as often as it is met; a slice's spare places count too). A statement '..UptoSaid' is the law's where the arguments, and the package variables that the reading takes, are together of bulk at most 1048576: NARROWER than '..Said'. Prove '..Said' where nothing that the law and all that it calls make is longer than what came in: it says more and counts as full. Else prove '..UptoSaid'. A law counts once. -/
mutual
def uptoBulk {H : Type} : DataW H → Nat
  | .lit (.string bytes) => bytes.length + 1
  | .lit _ => 1
  | .nil => 1
  | .ptr d => uptoBulk d + 1
  | .slice elems spare => uptoBulkAll elems + uptoBulkAll spare + 1
  | .agg parts => uptoBulkAll parts + 1
  | .iface _ d => uptoBulk d + 1
  | .map entries => uptoBulkEntries entries + 1
  | .held _ => 1
def uptoBulkAll {H : Type} : List (DataW H) → Nat
  | [] => 0
  | d :: r => uptoBulk d + uptoBulkAll r
def uptoBulkEntries {H : Type} : List (Lit × DataW H) → Nat
  | [] => 0
  | x :: r => uptoBulkEntry x + uptoBulkEntries r
def uptoBulkEntry {H : Type} : Lit × DataW H → Nat
  | (.string bytes, d) => bytes.length + uptoBulk d + 1
  | (_, d) => uptoBulk d + 1
 end
def uptoSmall : (H : Type) → List (DataW H) → Bool := fun _ ds => decide (uptoBulkAll ds ≤ 1048576)
def OpenSpec.upto (s : _root_.Go.ChangeSpec) : _root_.Go.OpenSpec := { _root_.Go.OpenSpec.ofChange s with cond := some uptoSmall }

/-- 'paddockkeep.LayoutFits', WHERE WHAT IT READS IS OF BULK AT MOST 1048576: true; the input reads as it did. -/
def layoutFitsUptoRow : OpenClaim := { program := "yteonmoncofcajaa", sum := "909fc1679435d1c01477a828917b06a7f835815dd2001549f1b081ed42b66511", func := "paddock/paddockkeep.LayoutFits", spec := "layoutFits", apart := false, narrowed := true }
def LayoutFitsUptoSaid : Prop := layoutFitsUptoRow.holds Try.pinned (OpenSpec.upto layoutFitsSpec)

/-- 'paddockkeep.FollowRing', WHERE WHAT IT READS IS OF BULK AT MOST 1048576: true; the input reads as it did. -/
def followRingUptoRow : OpenClaim := { program := "yteonmoncofcajaa", sum := "909fc1679435d1c01477a828917b06a7f835815dd2001549f1b081ed42b66511", func := "paddock/paddockkeep.FollowRing", spec := "followRing", apart := false, narrowed := true }
def FollowRingUptoSaid : Prop := followRingUptoRow.holds Try.pinned (OpenSpec.upto followRingSpec)

/-- 'paddockkeep.MoveKeeps', WHERE WHAT IT READS IS OF BULK AT MOST 1048576: true; the input reads as it did. -/
def moveKeepsUptoRow : OpenClaim := { program := "yteonmoncofcajaa", sum := "909fc1679435d1c01477a828917b06a7f835815dd2001549f1b081ed42b66511", func := "paddock/paddockkeep.MoveKeeps", spec := "moveKeeps", apart := false, narrowed := true }
def MoveKeepsUptoSaid : Prop := moveKeepsUptoRow.holds Try.pinned (OpenSpec.upto moveKeepsSpec)

/-- 'paddockkeep.StoreLoads', WHERE WHAT IT READS IS OF BULK AT MOST 1048576: true; the input reads as it did. -/
def storeLoadsUptoRow : OpenClaim := { program := "yteonmoncofcajaa", sum := "909fc1679435d1c01477a828917b06a7f835815dd2001549f1b081ed42b66511", func := "paddock/paddockkeep.StoreLoads", spec := "storeLoads", apart := false, narrowed := true }
def StoreLoadsUptoSaid : Prop := storeLoadsUptoRow.holds Try.pinned (OpenSpec.upto storeLoadsSpec)

/-- 'paddockkeep.ChainFollows', WHERE WHAT IT READS IS OF BULK AT MOST 1048576: true; the input reads as it did. -/
def chainFollowsUptoRow : OpenClaim := { program := "yteonmoncofcajaa", sum := "909fc1679435d1c01477a828917b06a7f835815dd2001549f1b081ed42b66511", func := "paddock/paddockkeep.ChainFollows", spec := "chainFollows", apart := false, narrowed := true }
def ChainFollowsUptoSaid : Prop := chainFollowsUptoRow.holds Try.pinned (OpenSpec.upto chainFollowsSpec)

/-- 'paddockkeep.BootPages', WHERE WHAT IT READS IS OF BULK AT MOST 1048576: true; the input reads as it did. -/
def bootPagesUptoRow : OpenClaim := { program := "yteonmoncofcajaa", sum := "909fc1679435d1c01477a828917b06a7f835815dd2001549f1b081ed42b66511", func := "paddock/paddockkeep.BootPages", spec := "bootPages", unfollowed := true, recurses := true, apart := false, narrowed := true }
def BootPagesUptoSaid : Prop := bootPagesUptoRow.holds Try.pinned (OpenSpec.upto bootPagesSpec)

/-- 'paddockkeep.BootEnds', WHERE WHAT IT READS IS OF BULK AT MOST 1048576: true; the input reads as it did. -/
def bootEndsUptoRow : OpenClaim := { program := "yteonmoncofcajaa", sum := "909fc1679435d1c01477a828917b06a7f835815dd2001549f1b081ed42b66511", func := "paddock/paddockkeep.BootEnds", spec := "bootEnds", unfollowed := true, recurses := true, apart := false, narrowed := true }
def BootEndsUptoSaid : Prop := bootEndsUptoRow.holds Try.pinned (OpenSpec.upto bootEndsSpec)

/-- 'paddockkeep.BootAllocates', WHERE WHAT IT READS IS OF BULK AT MOST 1048576: true; the input reads as it did. -/
def bootAllocatesUptoRow : OpenClaim := { program := "yteonmoncofcajaa", sum := "909fc1679435d1c01477a828917b06a7f835815dd2001549f1b081ed42b66511", func := "paddock/paddockkeep.BootAllocates", spec := "bootAllocates", unfollowed := true, recurses := true, apart := false, narrowed := true }
def BootAllocatesUptoSaid : Prop := bootAllocatesUptoRow.holds Try.pinned (OpenSpec.upto bootAllocatesSpec)

end Rows
end Go.Proofs.Yteonmoncofcajaa
