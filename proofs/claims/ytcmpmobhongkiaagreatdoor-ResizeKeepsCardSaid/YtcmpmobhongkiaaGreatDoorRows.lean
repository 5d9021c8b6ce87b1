/-
  NARROWER THAN 'FOR EVERY INPUT', by the rows' own cells (each row's printed sentence says how): TopBad: laid · TopSteps: laid · TopRefused: laid · SizesEnough: laid · CachesMerge: laid · CacheGoes: laid · SystemGood: laid · ThingsApart: laid · WordsStay: laid · TwiceRefused: laid · FindsAway: laid · ResizeKeeps: laid · AllBack: laid · TopTwice: laid · TopLater: laid.
  DERIVED. THE GIVEN ROWS OF THIS SEAT. 15 by the template 'for every input the law returns true; each argument reads behind the call as it read before'; 0 by the template 'total and deterministic' (their statements: YtcmpmobhongkiaaGreatDoorTotals.lean).
  GIVEN WITH THE SEED: the statements are not yours to turn. If you find one false, say at which input.
  Laid BY PROGRAM, IN A SANDBOX (cutbox-rows.mjs): the forced cells as the released guide's own fill.sh prints them over the translation 543217ba7ebf25dd… (all of the seat's roots in one cut). By AI agents, Wed Nov 11 2026. No macro, syntax, notation, axiom, sorry.
-/
import Derived.Test.YtcmpmobhongkiaaGreatDoorChecked
import GoSem.Claim
import GoSem.ClaimJoined
import GoSem.ClaimMapViews
import Derived.JoinedTies
import Derived.KernelRfl
namespace Go.Proofs.YtcmpmobhongkiaaGreatDoor
/- THE CELL 'sum', in the pinned program and in every row, IS THE sha256 OF THE DUMP (.gsa) THAT YtcmpmobhongkiaaGreatDoorProg.lean LOADS. Nothing in Lean hashes anything: it is a label: what it is worth is what the hold of that sum in a sandbox is worth. -/
noncomputable def Tryz.pinned : Pinned := { name := "ytcmpmobhongkiaagreatdoor", sum := "543217ba7ebf25ddf4174d3df4527dd9c407b99f2774627f755c958f6f44490a", checked := Tryz.checked }
namespace Rows
def none {H : Type} : Left H := { results := [], args := [] }

/- WHAT THE LISTED PACKAGE-LEVEL VARIABLES READ AS WHEN THE CALL BEGINS. Each datum BY PROGRAM (the guide's laid-datum.mjs) off the statement by which the dump's own 'gosem.cut.vars' lays the variable. In a bare row this is a premise. The card (YtcmpmobhongkiaaGreatDoorCards.lean) ties it to the program's text. -/
def laid_math_bits_deBruijn32tab {H : Type} : DataW H := .agg [.lit (.int .u8 0), .lit (.int .u8 1), .lit (.int .u8 28), .lit (.int .u8 2), .lit (.int .u8 29), .lit (.int .u8 14), .lit (.int .u8 24), .lit (.int .u8 3), .lit (.int .u8 30), .lit (.int .u8 22), .lit (.int .u8 20), .lit (.int .u8 15), .lit (.int .u8 25), .lit (.int .u8 17), .lit (.int .u8 4), .lit (.int .u8 8), .lit (.int .u8 31), .lit (.int .u8 27), .lit (.int .u8 13), .lit (.int .u8 23), .lit (.int .u8 21), .lit (.int .u8 19), .lit (.int .u8 16), .lit (.int .u8 7), .lit (.int .u8 26), .lit (.int .u8 12), .lit (.int .u8 18), .lit (.int .u8 6), .lit (.int .u8 11), .lit (.int .u8 5), .lit (.int .u8 10), .lit (.int .u8 9)]
def laid_math_bits_deBruijn64tab {H : Type} : DataW H := .agg [.lit (.int .u8 0), .lit (.int .u8 1), .lit (.int .u8 56), .lit (.int .u8 2), .lit (.int .u8 57), .lit (.int .u8 49), .lit (.int .u8 28), .lit (.int .u8 3), .lit (.int .u8 61), .lit (.int .u8 58), .lit (.int .u8 42), .lit (.int .u8 50), .lit (.int .u8 38), .lit (.int .u8 29), .lit (.int .u8 17), .lit (.int .u8 4), .lit (.int .u8 62), .lit (.int .u8 47), .lit (.int .u8 59), .lit (.int .u8 36), .lit (.int .u8 45), .lit (.int .u8 43), .lit (.int .u8 51), .lit (.int .u8 22), .lit (.int .u8 53), .lit (.int .u8 39), .lit (.int .u8 33), .lit (.int .u8 30), .lit (.int .u8 24), .lit (.int .u8 18), .lit (.int .u8 12), .lit (.int .u8 5), .lit (.int .u8 63), .lit (.int .u8 55), .lit (.int .u8 48), .lit (.int .u8 27), .lit (.int .u8 60), .lit (.int .u8 41), .lit (.int .u8 37), .lit (.int .u8 16), .lit (.int .u8 46), .lit (.int .u8 35), .lit (.int .u8 44), .lit (.int .u8 21), .lit (.int .u8 52), .lit (.int .u8 32), .lit (.int .u8 23), .lit (.int .u8 11), .lit (.int .u8 54), .lit (.int .u8 26), .lit (.int .u8 40), .lit (.int .u8 15), .lit (.int .u8 34), .lit (.int .u8 20), .lit (.int .u8 31), .lit (.int .u8 10), .lit (.int .u8 25), .lit (.int .u8 14), .lit (.int .u8 19), .lit (.int .u8 9), .lit (.int .u8 13), .lit (.int .u8 8), .lit (.int .u8 7), .lit (.int .u8 6)]
def laid_internal_strconv_uint64pow10 {H : Type} : DataW H := .agg [.lit (.int .u64 1), .lit (.int .u64 10), .lit (.int .u64 100), .lit (.int .u64 1000), .lit (.int .u64 10000), .lit (.int .u64 100000), .lit (.int .u64 1000000), .lit (.int .u64 10000000), .lit (.int .u64 100000000), .lit (.int .u64 1000000000), .lit (.int .u64 10000000000), .lit (.int .u64 100000000000), .lit (.int .u64 1000000000000), .lit (.int .u64 10000000000000), .lit (.int .u64 100000000000000), .lit (.int .u64 1000000000000000), .lit (.int .u64 10000000000000000), .lit (.int .u64 100000000000000000), .lit (.int .u64 1000000000000000000), .lit (.int .u64 10000000000000000000)]
def laid_paddock_buddy_others {H : Type} : DataW H := .agg [.agg [.lit (.int .i64 2), .lit (.int .i64 1)], .agg [.lit (.int .i64 2), .lit (.int .i64 0)], .agg [.lit (.int .i64 0), .lit (.int .i64 1)]]
def laid_paddock_kmem_sizes {H : Type} : DataW H := .agg [.lit (.int .i64 1), .lit (.int .i64 2), .lit (.int .i64 4), .lit (.int .i64 8), .lit (.int .i64 16), .lit (.int .i64 32)]

/-- 'paddocktop.TopBad': WHATEVER THE INPUT: true; the input reads as it did. -/
def topBadSpec : ChangeSpec := { name := "topBad", fn := fun _ => fun
  | [d1, d2, d3, d4, d5] => { results := [.lit (.bool true)], args := [d1, d2, d3, d4, d5] }
  | _ => none }
def topBadRow : OpenClaim := { program := "ytcmpmobhongkiaagreatdoor", sum := "543217ba7ebf25ddf4174d3df4527dd9c407b99f2774627f755c958f6f44490a", func := "paddock/paddocktop.TopBad", spec := "topBad", inPlace := ["slices.overlaps[paddock/api.Block]", "slices.overlaps[string]", "slices.overlaps[paddock/api.List]", "slices.overlaps[paddock/api.Slab]"], unfollowed := true, recurses := true, named := ["paddock/kmem.sizes", "internal/strconv.uint64pow10", "math/bits.deBruijn32tab", "math/bits.deBruijn64tab", "paddock/buddy.others"], apart := false, laid := [("math/bits.deBruijn32tab", laid_math_bits_deBruijn32tab), ("math/bits.deBruijn64tab", laid_math_bits_deBruijn64tab), ("internal/strconv.uint64pow10", laid_internal_strconv_uint64pow10), ("paddock/buddy.others", laid_paddock_buddy_others), ("paddock/kmem.sizes", laid_paddock_kmem_sizes)] }
def TopBadSaid : Prop := topBadRow.holds Tryz.pinned (OpenSpec.ofChange topBadSpec)

/-- ITS FALSE NEIGHBOUR: 'it returns false'. Refute it at one input. -/
def topBadWrong : ChangeSpec := { name := "topBad", fn := fun _ => fun
  | [d1, d2, d3, d4, d5] => { results := [.lit (.bool false)], args := [d1, d2, d3, d4, d5] }
  | _ => none }
def TopBadWrongFalsely : Prop := topBadRow.holds Tryz.pinned (OpenSpec.ofChange topBadWrong)

/-- 'paddocktop.TopSteps': WHATEVER THE INPUT: true; the input reads as it did. -/
def topStepsSpec : ChangeSpec := { name := "topSteps", fn := fun _ => fun
  | [d1, d2, d3, d4] => { results := [.lit (.bool true)], args := [d1, d2, d3, d4] }
  | _ => none }
def topStepsRow : OpenClaim := { program := "ytcmpmobhongkiaagreatdoor", sum := "543217ba7ebf25ddf4174d3df4527dd9c407b99f2774627f755c958f6f44490a", func := "paddock/paddocktop.TopSteps", spec := "topSteps", inPlace := ["slices.overlaps[paddock/api.Block]", "slices.overlaps[string]", "slices.overlaps[paddock/api.List]", "slices.overlaps[paddock/api.Slab]"], unfollowed := true, recurses := true, named := ["paddock/kmem.sizes", "internal/strconv.uint64pow10", "math/bits.deBruijn32tab", "math/bits.deBruijn64tab", "paddock/buddy.others"], apart := false, laid := [("math/bits.deBruijn32tab", laid_math_bits_deBruijn32tab), ("math/bits.deBruijn64tab", laid_math_bits_deBruijn64tab), ("internal/strconv.uint64pow10", laid_internal_strconv_uint64pow10), ("paddock/buddy.others", laid_paddock_buddy_others), ("paddock/kmem.sizes", laid_paddock_kmem_sizes)] }
def TopStepsSaid : Prop := topStepsRow.holds Tryz.pinned (OpenSpec.ofChange topStepsSpec)

/-- ITS FALSE NEIGHBOUR: 'it returns false'. Refute it at one input. -/
def topStepsWrong : ChangeSpec := { name := "topSteps", fn := fun _ => fun
  | [d1, d2, d3, d4] => { results := [.lit (.bool false)], args := [d1, d2, d3, d4] }
  | _ => none }
def TopStepsWrongFalsely : Prop := topStepsRow.holds Tryz.pinned (OpenSpec.ofChange topStepsWrong)

/-- 'paddocktop.TopRefused': WHATEVER THE INPUT: true; the input reads as it did. -/
def topRefusedSpec : ChangeSpec := { name := "topRefused", fn := fun _ => fun
  | [d1, d2, d3, d4] => { results := [.lit (.bool true)], args := [d1, d2, d3, d4] }
  | _ => none }
def topRefusedRow : OpenClaim := { program := "ytcmpmobhongkiaagreatdoor", sum := "543217ba7ebf25ddf4174d3df4527dd9c407b99f2774627f755c958f6f44490a", func := "paddock/paddocktop.TopRefused", spec := "topRefused", inPlace := ["slices.overlaps[paddock/api.Block]", "slices.overlaps[string]", "slices.overlaps[paddock/api.List]", "slices.overlaps[paddock/api.Slab]"], unfollowed := true, recurses := true, named := ["paddock/kmem.sizes", "internal/strconv.uint64pow10", "math/bits.deBruijn32tab", "math/bits.deBruijn64tab", "paddock/buddy.others"], apart := false, laid := [("math/bits.deBruijn32tab", laid_math_bits_deBruijn32tab), ("math/bits.deBruijn64tab", laid_math_bits_deBruijn64tab), ("internal/strconv.uint64pow10", laid_internal_strconv_uint64pow10), ("paddock/buddy.others", laid_paddock_buddy_others), ("paddock/kmem.sizes", laid_paddock_kmem_sizes)] }
def TopRefusedSaid : Prop := topRefusedRow.holds Tryz.pinned (OpenSpec.ofChange topRefusedSpec)

/-- ITS FALSE NEIGHBOUR: 'it returns false'. Refute it at one input. -/
def topRefusedWrong : ChangeSpec := { name := "topRefused", fn := fun _ => fun
  | [d1, d2, d3, d4] => { results := [.lit (.bool false)], args := [d1, d2, d3, d4] }
  | _ => none }
def TopRefusedWrongFalsely : Prop := topRefusedRow.holds Tryz.pinned (OpenSpec.ofChange topRefusedWrong)

/-- 'paddockkeep.SizesEnough': WHATEVER THE INPUT: true; the input reads as it did. -/
def sizesEnoughSpec : ChangeSpec := { name := "sizesEnough", fn := fun _ => fun
  | [d1, d2, d3, d4] => { results := [.lit (.bool true)], args := [d1, d2, d3, d4] }
  | _ => none }
def sizesEnoughRow : OpenClaim := { program := "ytcmpmobhongkiaagreatdoor", sum := "543217ba7ebf25ddf4174d3df4527dd9c407b99f2774627f755c958f6f44490a", func := "paddock/paddockkeep.SizesEnough", spec := "sizesEnough", inPlace := ["slices.overlaps[paddock/api.Block]", "slices.overlaps[string]", "slices.overlaps[paddock/api.List]", "slices.overlaps[paddock/api.Slab]"], unfollowed := true, recurses := true, named := ["paddock/kmem.sizes", "internal/strconv.uint64pow10", "math/bits.deBruijn32tab", "math/bits.deBruijn64tab", "paddock/buddy.others"], apart := false, laid := [("math/bits.deBruijn32tab", laid_math_bits_deBruijn32tab), ("math/bits.deBruijn64tab", laid_math_bits_deBruijn64tab), ("internal/strconv.uint64pow10", laid_internal_strconv_uint64pow10), ("paddock/buddy.others", laid_paddock_buddy_others), ("paddock/kmem.sizes", laid_paddock_kmem_sizes)] }
def SizesEnoughSaid : Prop := sizesEnoughRow.holds Tryz.pinned (OpenSpec.ofChange sizesEnoughSpec)

/-- ITS FALSE NEIGHBOUR: 'it returns false'. Refute it at one input. -/
def sizesEnoughWrong : ChangeSpec := { name := "sizesEnough", fn := fun _ => fun
  | [d1, d2, d3, d4] => { results := [.lit (.bool false)], args := [d1, d2, d3, d4] }
  | _ => none }
def SizesEnoughWrongFalsely : Prop := sizesEnoughRow.holds Tryz.pinned (OpenSpec.ofChange sizesEnoughWrong)

/-- 'paddockkeep.CachesMerge': WHATEVER THE INPUT: true; the input reads as it did. -/
def cachesMergeSpec : ChangeSpec := { name := "cachesMerge", fn := fun _ => fun
  | [d1, d2, d3, d4] => { results := [.lit (.bool true)], args := [d1, d2, d3, d4] }
  | _ => none }
def cachesMergeRow : OpenClaim := { program := "ytcmpmobhongkiaagreatdoor", sum := "543217ba7ebf25ddf4174d3df4527dd9c407b99f2774627f755c958f6f44490a", func := "paddock/paddockkeep.CachesMerge", spec := "cachesMerge", inPlace := ["slices.overlaps[paddock/api.Block]", "slices.overlaps[string]", "slices.overlaps[paddock/api.List]", "slices.overlaps[paddock/api.Slab]"], unfollowed := true, recurses := true, named := ["paddock/kmem.sizes", "internal/strconv.uint64pow10", "math/bits.deBruijn32tab", "math/bits.deBruijn64tab", "paddock/buddy.others"], apart := false, laid := [("math/bits.deBruijn32tab", laid_math_bits_deBruijn32tab), ("math/bits.deBruijn64tab", laid_math_bits_deBruijn64tab), ("internal/strconv.uint64pow10", laid_internal_strconv_uint64pow10), ("paddock/buddy.others", laid_paddock_buddy_others), ("paddock/kmem.sizes", laid_paddock_kmem_sizes)] }
def CachesMergeSaid : Prop := cachesMergeRow.holds Tryz.pinned (OpenSpec.ofChange cachesMergeSpec)

/-- ITS FALSE NEIGHBOUR: 'it returns false'. Refute it at one input. -/
def cachesMergeWrong : ChangeSpec := { name := "cachesMerge", fn := fun _ => fun
  | [d1, d2, d3, d4] => { results := [.lit (.bool false)], args := [d1, d2, d3, d4] }
  | _ => none }
def CachesMergeWrongFalsely : Prop := cachesMergeRow.holds Tryz.pinned (OpenSpec.ofChange cachesMergeWrong)

/-- 'paddockkeep.CacheGoes': WHATEVER THE INPUT: true; the input reads as it did. -/
def cacheGoesSpec : ChangeSpec := { name := "cacheGoes", fn := fun _ => fun
  | [d1, d2] => { results := [.lit (.bool true)], args := [d1, d2] }
  | _ => none }
def cacheGoesRow : OpenClaim := { program := "ytcmpmobhongkiaagreatdoor", sum := "543217ba7ebf25ddf4174d3df4527dd9c407b99f2774627f755c958f6f44490a", func := "paddock/paddockkeep.CacheGoes", spec := "cacheGoes", inPlace := ["slices.overlaps[paddock/api.Block]", "slices.overlaps[string]", "slices.overlaps[paddock/api.List]", "slices.overlaps[paddock/api.Slab]"], unfollowed := true, recurses := true, named := ["paddock/kmem.sizes", "internal/strconv.uint64pow10", "math/bits.deBruijn32tab", "math/bits.deBruijn64tab", "paddock/buddy.others"], apart := false, laid := [("math/bits.deBruijn32tab", laid_math_bits_deBruijn32tab), ("math/bits.deBruijn64tab", laid_math_bits_deBruijn64tab), ("internal/strconv.uint64pow10", laid_internal_strconv_uint64pow10), ("paddock/buddy.others", laid_paddock_buddy_others), ("paddock/kmem.sizes", laid_paddock_kmem_sizes)] }
def CacheGoesSaid : Prop := cacheGoesRow.holds Tryz.pinned (OpenSpec.ofChange cacheGoesSpec)

/-- ITS FALSE NEIGHBOUR: 'it returns false'. Refute it at one input. -/
def cacheGoesWrong : ChangeSpec := { name := "cacheGoes", fn := fun _ => fun
  | [d1, d2] => { results := [.lit (.bool false)], args := [d1, d2] }
  | _ => none }
def CacheGoesWrongFalsely : Prop := cacheGoesRow.holds Tryz.pinned (OpenSpec.ofChange cacheGoesWrong)

/-- 'paddockkeep.SystemGood': WHATEVER THE INPUT: true; the input reads as it did. -/
def systemGoodSpec : ChangeSpec := { name := "systemGood", fn := fun _ => fun
  | [d1, d2, d3, d4] => { results := [.lit (.bool true)], args := [d1, d2, d3, d4] }
  | _ => none }
def systemGoodRow : OpenClaim := { program := "ytcmpmobhongkiaagreatdoor", sum := "543217ba7ebf25ddf4174d3df4527dd9c407b99f2774627f755c958f6f44490a", func := "paddock/paddockkeep.SystemGood", spec := "systemGood", inPlace := ["slices.overlaps[paddock/api.Block]", "slices.overlaps[string]", "slices.overlaps[paddock/api.List]", "slices.overlaps[paddock/api.Slab]"], unfollowed := true, recurses := true, named := ["paddock/kmem.sizes", "internal/strconv.uint64pow10", "math/bits.deBruijn32tab", "math/bits.deBruijn64tab", "paddock/buddy.others"], apart := false, laid := [("math/bits.deBruijn32tab", laid_math_bits_deBruijn32tab), ("math/bits.deBruijn64tab", laid_math_bits_deBruijn64tab), ("internal/strconv.uint64pow10", laid_internal_strconv_uint64pow10), ("paddock/buddy.others", laid_paddock_buddy_others), ("paddock/kmem.sizes", laid_paddock_kmem_sizes)] }
def SystemGoodSaid : Prop := systemGoodRow.holds Tryz.pinned (OpenSpec.ofChange systemGoodSpec)

/-- ITS FALSE NEIGHBOUR: 'it returns false'. Refute it at one input. -/
def systemGoodWrong : ChangeSpec := { name := "systemGood", fn := fun _ => fun
  | [d1, d2, d3, d4] => { results := [.lit (.bool false)], args := [d1, d2, d3, d4] }
  | _ => none }
def SystemGoodWrongFalsely : Prop := systemGoodRow.holds Tryz.pinned (OpenSpec.ofChange systemGoodWrong)

/-- 'paddockkeep.ThingsApart': WHATEVER THE INPUT: true; the input reads as it did. -/
def thingsApartSpec : ChangeSpec := { name := "thingsApart", fn := fun _ => fun
  | [d1, d2, d3, d4] => { results := [.lit (.bool true)], args := [d1, d2, d3, d4] }
  | _ => none }
def thingsApartRow : OpenClaim := { program := "ytcmpmobhongkiaagreatdoor", sum := "543217ba7ebf25ddf4174d3df4527dd9c407b99f2774627f755c958f6f44490a", func := "paddock/paddockkeep.ThingsApart", spec := "thingsApart", inPlace := ["slices.overlaps[paddock/api.Block]", "slices.overlaps[string]", "slices.overlaps[paddock/api.List]", "slices.overlaps[paddock/api.Slab]"], unfollowed := true, recurses := true, named := ["paddock/kmem.sizes", "internal/strconv.uint64pow10", "math/bits.deBruijn32tab", "math/bits.deBruijn64tab", "paddock/buddy.others"], apart := false, laid := [("math/bits.deBruijn32tab", laid_math_bits_deBruijn32tab), ("math/bits.deBruijn64tab", laid_math_bits_deBruijn64tab), ("internal/strconv.uint64pow10", laid_internal_strconv_uint64pow10), ("paddock/buddy.others", laid_paddock_buddy_others), ("paddock/kmem.sizes", laid_paddock_kmem_sizes)] }
def ThingsApartSaid : Prop := thingsApartRow.holds Tryz.pinned (OpenSpec.ofChange thingsApartSpec)

/-- ITS FALSE NEIGHBOUR: 'it returns false'. Refute it at one input. -/
def thingsApartWrong : ChangeSpec := { name := "thingsApart", fn := fun _ => fun
  | [d1, d2, d3, d4] => { results := [.lit (.bool false)], args := [d1, d2, d3, d4] }
  | _ => none }
def ThingsApartWrongFalsely : Prop := thingsApartRow.holds Tryz.pinned (OpenSpec.ofChange thingsApartWrong)

/-- 'paddockkeep.WordsStay': WHATEVER THE INPUT: true; the input reads as it did. -/
def wordsStaySpec : ChangeSpec := { name := "wordsStay", fn := fun _ => fun
  | [d1, d2, d3, d4] => { results := [.lit (.bool true)], args := [d1, d2, d3, d4] }
  | _ => none }
def wordsStayRow : OpenClaim := { program := "ytcmpmobhongkiaagreatdoor", sum := "543217ba7ebf25ddf4174d3df4527dd9c407b99f2774627f755c958f6f44490a", func := "paddock/paddockkeep.WordsStay", spec := "wordsStay", inPlace := ["slices.overlaps[paddock/api.Block]", "slices.overlaps[string]", "slices.overlaps[paddock/api.List]", "slices.overlaps[paddock/api.Slab]"], unfollowed := true, recurses := true, named := ["paddock/kmem.sizes", "internal/strconv.uint64pow10", "math/bits.deBruijn32tab", "math/bits.deBruijn64tab", "paddock/buddy.others"], apart := false, laid := [("math/bits.deBruijn32tab", laid_math_bits_deBruijn32tab), ("math/bits.deBruijn64tab", laid_math_bits_deBruijn64tab), ("internal/strconv.uint64pow10", laid_internal_strconv_uint64pow10), ("paddock/buddy.others", laid_paddock_buddy_others), ("paddock/kmem.sizes", laid_paddock_kmem_sizes)] }
def WordsStaySaid : Prop := wordsStayRow.holds Tryz.pinned (OpenSpec.ofChange wordsStaySpec)

/-- ITS FALSE NEIGHBOUR: 'it returns false'. Refute it at one input. -/
def wordsStayWrong : ChangeSpec := { name := "wordsStay", fn := fun _ => fun
  | [d1, d2, d3, d4] => { results := [.lit (.bool false)], args := [d1, d2, d3, d4] }
  | _ => none }
def WordsStayWrongFalsely : Prop := wordsStayRow.holds Tryz.pinned (OpenSpec.ofChange wordsStayWrong)

/-- 'paddockkeep.TwiceRefused': WHATEVER THE INPUT: true; the input reads as it did. -/
def twiceRefusedSpec : ChangeSpec := { name := "twiceRefused", fn := fun _ => fun
  | [d1, d2, d3, d4, d5] => { results := [.lit (.bool true)], args := [d1, d2, d3, d4, d5] }
  | _ => none }
def twiceRefusedRow : OpenClaim := { program := "ytcmpmobhongkiaagreatdoor", sum := "543217ba7ebf25ddf4174d3df4527dd9c407b99f2774627f755c958f6f44490a", func := "paddock/paddockkeep.TwiceRefused", spec := "twiceRefused", inPlace := ["slices.overlaps[paddock/api.Block]", "slices.overlaps[string]", "slices.overlaps[paddock/api.List]", "slices.overlaps[paddock/api.Slab]"], unfollowed := true, recurses := true, named := ["paddock/kmem.sizes", "internal/strconv.uint64pow10", "math/bits.deBruijn32tab", "math/bits.deBruijn64tab", "paddock/buddy.others"], apart := false, laid := [("math/bits.deBruijn32tab", laid_math_bits_deBruijn32tab), ("math/bits.deBruijn64tab", laid_math_bits_deBruijn64tab), ("internal/strconv.uint64pow10", laid_internal_strconv_uint64pow10), ("paddock/buddy.others", laid_paddock_buddy_others), ("paddock/kmem.sizes", laid_paddock_kmem_sizes)] }
def TwiceRefusedSaid : Prop := twiceRefusedRow.holds Tryz.pinned (OpenSpec.ofChange twiceRefusedSpec)

/-- ITS FALSE NEIGHBOUR: 'it returns false'. Refute it at one input. -/
def twiceRefusedWrong : ChangeSpec := { name := "twiceRefused", fn := fun _ => fun
  | [d1, d2, d3, d4, d5] => { results := [.lit (.bool false)], args := [d1, d2, d3, d4, d5] }
  | _ => none }
def TwiceRefusedWrongFalsely : Prop := twiceRefusedRow.holds Tryz.pinned (OpenSpec.ofChange twiceRefusedWrong)

/-- 'paddockkeep.FindsAway': WHATEVER THE INPUT: true; the input reads as it did. -/
def findsAwaySpec : ChangeSpec := { name := "findsAway", fn := fun _ => fun
  | [d1, d2, d3, d4] => { results := [.lit (.bool true)], args := [d1, d2, d3, d4] }
  | _ => none }
def findsAwayRow : OpenClaim := { program := "ytcmpmobhongkiaagreatdoor", sum := "543217ba7ebf25ddf4174d3df4527dd9c407b99f2774627f755c958f6f44490a", func := "paddock/paddockkeep.FindsAway", spec := "findsAway", inPlace := ["slices.overlaps[paddock/api.Block]", "slices.overlaps[string]", "slices.overlaps[paddock/api.List]", "slices.overlaps[paddock/api.Slab]"], unfollowed := true, recurses := true, named := ["paddock/kmem.sizes", "internal/strconv.uint64pow10", "math/bits.deBruijn32tab", "math/bits.deBruijn64tab", "paddock/buddy.others"], apart := false, laid := [("math/bits.deBruijn32tab", laid_math_bits_deBruijn32tab), ("math/bits.deBruijn64tab", laid_math_bits_deBruijn64tab), ("internal/strconv.uint64pow10", laid_internal_strconv_uint64pow10), ("paddock/buddy.others", laid_paddock_buddy_others), ("paddock/kmem.sizes", laid_paddock_kmem_sizes)] }
def FindsAwaySaid : Prop := findsAwayRow.holds Tryz.pinned (OpenSpec.ofChange findsAwaySpec)

/-- ITS FALSE NEIGHBOUR: 'it returns false'. Refute it at one input. -/
def findsAwayWrong : ChangeSpec := { name := "findsAway", fn := fun _ => fun
  | [d1, d2, d3, d4] => { results := [.lit (.bool false)], args := [d1, d2, d3, d4] }
  | _ => none }
def FindsAwayWrongFalsely : Prop := findsAwayRow.holds Tryz.pinned (OpenSpec.ofChange findsAwayWrong)

/-- 'paddockkeep.ResizeKeeps': WHATEVER THE INPUT: true; the input reads as it did. -/
def resizeKeepsSpec : ChangeSpec := { name := "resizeKeeps", fn := fun _ => fun
  | [d1, d2, d3] => { results := [.lit (.bool true)], args := [d1, d2, d3] }
  | _ => none }
def resizeKeepsRow : OpenClaim := { program := "ytcmpmobhongkiaagreatdoor", sum := "543217ba7ebf25ddf4174d3df4527dd9c407b99f2774627f755c958f6f44490a", func := "paddock/paddockkeep.ResizeKeeps", spec := "resizeKeeps", inPlace := ["slices.overlaps[paddock/api.Block]", "slices.overlaps[string]", "slices.overlaps[paddock/api.List]", "slices.overlaps[paddock/api.Slab]"], unfollowed := true, recurses := true, named := ["paddock/kmem.sizes", "internal/strconv.uint64pow10", "math/bits.deBruijn32tab", "math/bits.deBruijn64tab", "paddock/buddy.others"], apart := false, laid := [("math/bits.deBruijn32tab", laid_math_bits_deBruijn32tab), ("math/bits.deBruijn64tab", laid_math_bits_deBruijn64tab), ("internal/strconv.uint64pow10", laid_internal_strconv_uint64pow10), ("paddock/buddy.others", laid_paddock_buddy_others), ("paddock/kmem.sizes", laid_paddock_kmem_sizes)] }
def ResizeKeepsSaid : Prop := resizeKeepsRow.holds Tryz.pinned (OpenSpec.ofChange resizeKeepsSpec)

/-- ITS FALSE NEIGHBOUR: 'it returns false'. Refute it at one input. -/
def resizeKeepsWrong : ChangeSpec := { name := "resizeKeeps", fn := fun _ => fun
  | [d1, d2, d3] => { results := [.lit (.bool false)], args := [d1, d2, d3] }
  | _ => none }
def ResizeKeepsWrongFalsely : Prop := resizeKeepsRow.holds Tryz.pinned (OpenSpec.ofChange resizeKeepsWrong)

/-- 'paddockkeep.AllBack': WHATEVER THE INPUT: true; the input reads as it did. -/
def allBackSpec : ChangeSpec := { name := "allBack", fn := fun _ => fun
  | [d1, d2, d3, d4] => { results := [.lit (.bool true)], args := [d1, d2, d3, d4] }
  | _ => none }
def allBackRow : OpenClaim := { program := "ytcmpmobhongkiaagreatdoor", sum := "543217ba7ebf25ddf4174d3df4527dd9c407b99f2774627f755c958f6f44490a", func := "paddock/paddockkeep.AllBack", spec := "allBack", inPlace := ["slices.overlaps[paddock/api.Block]", "slices.overlaps[string]", "slices.overlaps[paddock/api.List]", "slices.overlaps[paddock/api.Slab]"], unfollowed := true, recurses := true, named := ["paddock/kmem.sizes", "internal/strconv.uint64pow10", "math/bits.deBruijn32tab", "math/bits.deBruijn64tab", "paddock/buddy.others"], apart := false, laid := [("math/bits.deBruijn32tab", laid_math_bits_deBruijn32tab), ("math/bits.deBruijn64tab", laid_math_bits_deBruijn64tab), ("internal/strconv.uint64pow10", laid_internal_strconv_uint64pow10), ("paddock/buddy.others", laid_paddock_buddy_others), ("paddock/kmem.sizes", laid_paddock_kmem_sizes)] }
def AllBackSaid : Prop := allBackRow.holds Tryz.pinned (OpenSpec.ofChange allBackSpec)

/-- ITS FALSE NEIGHBOUR: 'it returns false'. Refute it at one input. -/
def allBackWrong : ChangeSpec := { name := "allBack", fn := fun _ => fun
  | [d1, d2, d3, d4] => { results := [.lit (.bool false)], args := [d1, d2, d3, d4] }
  | _ => none }
def AllBackWrongFalsely : Prop := allBackRow.holds Tryz.pinned (OpenSpec.ofChange allBackWrong)

/-- 'paddocktop.TopTwice': WHATEVER THE INPUT: true; the input reads as it did. -/
def topTwiceSpec : ChangeSpec := { name := "topTwice", fn := fun _ => fun
  | [d1, d2, d3, d4] => { results := [.lit (.bool true)], args := [d1, d2, d3, d4] }
  | _ => none }
def topTwiceRow : OpenClaim := { program := "ytcmpmobhongkiaagreatdoor", sum := "543217ba7ebf25ddf4174d3df4527dd9c407b99f2774627f755c958f6f44490a", func := "paddock/paddocktop.TopTwice", spec := "topTwice", inPlace := ["slices.overlaps[paddock/api.Block]", "slices.overlaps[string]", "slices.overlaps[paddock/api.List]", "slices.overlaps[paddock/api.Slab]"], unfollowed := true, recurses := true, named := ["paddock/kmem.sizes", "internal/strconv.uint64pow10", "math/bits.deBruijn32tab", "math/bits.deBruijn64tab", "paddock/buddy.others"], apart := false, laid := [("math/bits.deBruijn32tab", laid_math_bits_deBruijn32tab), ("math/bits.deBruijn64tab", laid_math_bits_deBruijn64tab), ("internal/strconv.uint64pow10", laid_internal_strconv_uint64pow10), ("paddock/buddy.others", laid_paddock_buddy_others), ("paddock/kmem.sizes", laid_paddock_kmem_sizes)] }
def TopTwiceSaid : Prop := topTwiceRow.holds Tryz.pinned (OpenSpec.ofChange topTwiceSpec)

/-- ITS FALSE NEIGHBOUR: 'it returns false'. Refute it at one input. -/
def topTwiceWrong : ChangeSpec := { name := "topTwice", fn := fun _ => fun
  | [d1, d2, d3, d4] => { results := [.lit (.bool false)], args := [d1, d2, d3, d4] }
  | _ => none }
def TopTwiceWrongFalsely : Prop := topTwiceRow.holds Tryz.pinned (OpenSpec.ofChange topTwiceWrong)

/-- 'paddocktop.TopLater': WHATEVER THE INPUT: true; the input reads as it did. -/
def topLaterSpec : ChangeSpec := { name := "topLater", fn := fun _ => fun
  | [d1, d2, d3, d4, d5] => { results := [.lit (.bool true)], args := [d1, d2, d3, d4, d5] }
  | _ => none }
def topLaterRow : OpenClaim := { program := "ytcmpmobhongkiaagreatdoor", sum := "543217ba7ebf25ddf4174d3df4527dd9c407b99f2774627f755c958f6f44490a", func := "paddock/paddocktop.TopLater", spec := "topLater", inPlace := ["slices.overlaps[paddock/api.Block]", "slices.overlaps[string]", "slices.overlaps[paddock/api.List]", "slices.overlaps[paddock/api.Slab]"], unfollowed := true, recurses := true, named := ["paddock/kmem.sizes", "internal/strconv.uint64pow10", "math/bits.deBruijn32tab", "math/bits.deBruijn64tab", "paddock/buddy.others"], apart := false, laid := [("math/bits.deBruijn32tab", laid_math_bits_deBruijn32tab), ("math/bits.deBruijn64tab", laid_math_bits_deBruijn64tab), ("internal/strconv.uint64pow10", laid_internal_strconv_uint64pow10), ("paddock/buddy.others", laid_paddock_buddy_others), ("paddock/kmem.sizes", laid_paddock_kmem_sizes)] }
def TopLaterSaid : Prop := topLaterRow.holds Tryz.pinned (OpenSpec.ofChange topLaterSpec)

/-- ITS FALSE NEIGHBOUR: 'it returns false'. Refute it at one input. -/
def topLaterWrong : ChangeSpec := { name := "topLater", fn := fun _ => fun
  | [d1, d2, d3, d4, d5] => { results := [.lit (.bool false)], args := [d1, d2, d3, d4, d5] }
  | _ => none }
def TopLaterWrongFalsely : Prop := topLaterRow.holds Tryz.pinned (OpenSpec.ofChange topLaterWrong)

/- THE SECOND FORM. 'bulk': how many values and letters a reading holds, each counted each time it is reached (what is shared counts as often as it is met; a slice's spare places count too). A statement '..UptoSaid' is the law's where the arguments, and the package variables that the reading takes, are together of bulk at most 1048576: NARROWER than '..Said'. Prove '..Said' where nothing that the law and all that it calls make is longer than what came in: it says more and counts as full. Else prove '..UptoSaid'. A law counts once. -/
mutual
def uptoBulk {H : Type} : DataW H → Nat
  | .lit (.string bytes) => bytes.length + 1
  | .lit _ => 1
  | .nil => 1
  | .ptr d => uptoBulk d + 1
  | .slice elems spare => uptoBulkAll elems + uptoBulkAll spare + 1
  | .agg parts => uptoBulkAll parts + 1
  | .iface _ d => uptoBulk d + 1
  | .map entries => uptoBulkEntries entries + 1
  | .held _ => 1
def uptoBulkAll {H : Type} : List (DataW H) → Nat
  | [] => 0
  | d :: r => uptoBulk d + uptoBulkAll r
def uptoBulkEntries {H : Type} : List (Lit × DataW H) → Nat
  | [] => 0
  | x :: r => uptoBulkEntry x + uptoBulkEntries r
def uptoBulkEntry {H : Type} : Lit × DataW H → Nat
  | (.string bytes, d) => bytes.length + uptoBulk d + 1
  | (_, d) => uptoBulk d + 1
 end
def uptoSmall : (H : Type) → List (DataW H) → Bool := fun _ ds => decide (uptoBulkAll ds ≤ 1048576)
def OpenSpec.upto (s : _root_.Go.ChangeSpec) : _root_.Go.OpenSpec := { _root_.Go.OpenSpec.ofChange s with cond := some uptoSmall }

/-- 'paddocktop.TopBad', WHERE WHAT IT READS IS OF BULK AT MOST 1048576: true; the input reads as it did. -/
def topBadUptoRow : OpenClaim := { program := "ytcmpmobhongkiaagreatdoor", sum := "543217ba7ebf25ddf4174d3df4527dd9c407b99f2774627f755c958f6f44490a", func := "paddock/paddocktop.TopBad", spec := "topBad", inPlace := ["slices.overlaps[paddock/api.Block]", "slices.overlaps[string]", "slices.overlaps[paddock/api.List]", "slices.overlaps[paddock/api.Slab]"], unfollowed := true, recurses := true, named := ["paddock/kmem.sizes", "internal/strconv.uint64pow10", "math/bits.deBruijn32tab", "math/bits.deBruijn64tab", "paddock/buddy.others"], apart := false, laid := [("math/bits.deBruijn32tab", laid_math_bits_deBruijn32tab), ("math/bits.deBruijn64tab", laid_math_bits_deBruijn64tab), ("internal/strconv.uint64pow10", laid_internal_strconv_uint64pow10), ("paddock/buddy.others", laid_paddock_buddy_others), ("paddock/kmem.sizes", laid_paddock_kmem_sizes)], narrowed := true }
def TopBadUptoSaid : Prop := topBadUptoRow.holds Tryz.pinned (OpenSpec.upto topBadSpec)

/-- 'paddocktop.TopSteps', WHERE WHAT IT READS IS OF BULK AT MOST 1048576: true; the input reads as it did. -/
def topStepsUptoRow : OpenClaim := { program := "ytcmpmobhongkiaagreatdoor", sum := "543217ba7ebf25ddf4174d3df4527dd9c407b99f2774627f755c958f6f44490a", func := "paddock/paddocktop.TopSteps", spec := "topSteps", inPlace := ["slices.overlaps[paddock/api.Block]", "slices.overlaps[string]", "slices.overlaps[paddock/api.List]", "slices.overlaps[paddock/api.Slab]"], unfollowed := true, recurses := true, named := ["paddock/kmem.sizes", "internal/strconv.uint64pow10", "math/bits.deBruijn32tab", "math/bits.deBruijn64tab", "paddock/buddy.others"], apart := false, laid := [("math/bits.deBruijn32tab", laid_math_bits_deBruijn32tab), ("math/bits.deBruijn64tab", laid_math_bits_deBruijn64tab), ("internal/strconv.uint64pow10", laid_internal_strconv_uint64pow10), ("paddock/buddy.others", laid_paddock_buddy_others), ("paddock/kmem.sizes", laid_paddock_kmem_sizes)], narrowed := true }
def TopStepsUptoSaid : Prop := topStepsUptoRow.holds Tryz.pinned (OpenSpec.upto topStepsSpec)

/-- 'paddocktop.TopRefused', WHERE WHAT IT READS IS OF BULK AT MOST 1048576: true; the input reads as it did. -/
def topRefusedUptoRow : OpenClaim := { program := "ytcmpmobhongkiaagreatdoor", sum := "543217ba7ebf25ddf4174d3df4527dd9c407b99f2774627f755c958f6f44490a", func := "paddock/paddocktop.TopRefused", spec := "topRefused", inPlace := ["slices.overlaps[paddock/api.Block]", "slices.overlaps[string]", "slices.overlaps[paddock/api.List]", "slices.overlaps[paddock/api.Slab]"], unfollowed := true, recurses := true, named := ["paddock/kmem.sizes", "internal/strconv.uint64pow10", "math/bits.deBruijn32tab", "math/bits.deBruijn64tab", "paddock/buddy.others"], apart := false, laid := [("math/bits.deBruijn32tab", laid_math_bits_deBruijn32tab), ("math/bits.deBruijn64tab", laid_math_bits_deBruijn64tab), ("internal/strconv.uint64pow10", laid_internal_strconv_uint64pow10), ("paddock/buddy.others", laid_paddock_buddy_others), ("paddock/kmem.sizes", laid_paddock_kmem_sizes)], narrowed := true }
def TopRefusedUptoSaid : Prop := topRefusedUptoRow.holds Tryz.pinned (OpenSpec.upto topRefusedSpec)

/-- 'paddockkeep.SizesEnough', WHERE WHAT IT READS IS OF BULK AT MOST 1048576: true; the input reads as it did. -/
def sizesEnoughUptoRow : OpenClaim := { program := "ytcmpmobhongkiaagreatdoor", sum := "543217ba7ebf25ddf4174d3df4527dd9c407b99f2774627f755c958f6f44490a", func := "paddock/paddockkeep.SizesEnough", spec := "sizesEnough", inPlace := ["slices.overlaps[paddock/api.Block]", "slices.overlaps[string]", "slices.overlaps[paddock/api.List]", "slices.overlaps[paddock/api.Slab]"], unfollowed := true, recurses := true, named := ["paddock/kmem.sizes", "internal/strconv.uint64pow10", "math/bits.deBruijn32tab", "math/bits.deBruijn64tab", "paddock/buddy.others"], apart := false, laid := [("math/bits.deBruijn32tab", laid_math_bits_deBruijn32tab), ("math/bits.deBruijn64tab", laid_math_bits_deBruijn64tab), ("internal/strconv.uint64pow10", laid_internal_strconv_uint64pow10), ("paddock/buddy.others", laid_paddock_buddy_others), ("paddock/kmem.sizes", laid_paddock_kmem_sizes)], narrowed := true }
def SizesEnoughUptoSaid : Prop := sizesEnoughUptoRow.holds Tryz.pinned (OpenSpec.upto sizesEnoughSpec)

/-- 'paddockkeep.CachesMerge', WHERE WHAT IT READS IS OF BULK AT MOST 1048576: true; the input reads as it did. -/
def cachesMergeUptoRow : OpenClaim := { program := "ytcmpmobhongkiaagreatdoor", sum := "543217ba7ebf25ddf4174d3df4527dd9c407b99f2774627f755c958f6f44490a", func := "paddock/paddockkeep.CachesMerge", spec := "cachesMerge", inPlace := ["slices.overlaps[paddock/api.Block]", "slices.overlaps[string]", "slices.overlaps[paddock/api.List]", "slices.overlaps[paddock/api.Slab]"], unfollowed := true, recurses := true, named := ["paddock/kmem.sizes", "internal/strconv.uint64pow10", "math/bits.deBruijn32tab", "math/bits.deBruijn64tab", "paddock/buddy.others"], apart := false, laid := [("math/bits.deBruijn32tab", laid_math_bits_deBruijn32tab), ("math/bits.deBruijn64tab", laid_math_bits_deBruijn64tab), ("internal/strconv.uint64pow10", laid_internal_strconv_uint64pow10), ("paddock/buddy.others", laid_paddock_buddy_others), ("paddock/kmem.sizes", laid_paddock_kmem_sizes)], narrowed := true }
def CachesMergeUptoSaid : Prop := cachesMergeUptoRow.holds Tryz.pinned (OpenSpec.upto cachesMergeSpec)

/-- 'paddockkeep.CacheGoes', WHERE WHAT IT READS IS OF BULK AT MOST 1048576: true; the input reads as it did. -/
def cacheGoesUptoRow : OpenClaim := { program := "ytcmpmobhongkiaagreatdoor", sum := "543217ba7ebf25ddf4174d3df4527dd9c407b99f2774627f755c958f6f44490a", func := "paddock/paddockkeep.CacheGoes", spec := "cacheGoes", inPlace := ["slices.overlaps[paddock/api.Block]", "slices.overlaps[string]", "slices.overlaps[paddock/api.List]", "slices.overlaps[paddock/api.Slab]"], unfollowed := true, recurses := true, named := ["paddock/kmem.sizes", "internal/strconv.uint64pow10", "math/bits.deBruijn32tab", "math/bits.deBruijn64tab", "paddock/buddy.others"], apart := false, laid := [("math/bits.deBruijn32tab", laid_math_bits_deBruijn32tab), ("math/bits.deBruijn64tab", laid_math_bits_deBruijn64tab), ("internal/strconv.uint64pow10", laid_internal_strconv_uint64pow10), ("paddock/buddy.others", laid_paddock_buddy_others), ("paddock/kmem.sizes", laid_paddock_kmem_sizes)], narrowed := true }
def CacheGoesUptoSaid : Prop := cacheGoesUptoRow.holds Tryz.pinned (OpenSpec.upto cacheGoesSpec)

/-- 'paddockkeep.SystemGood', WHERE WHAT IT READS IS OF BULK AT MOST 1048576: true; the input reads as it did. -/
def systemGoodUptoRow : OpenClaim := { program := "ytcmpmobhongkiaagreatdoor", sum := "543217ba7ebf25ddf4174d3df4527dd9c407b99f2774627f755c958f6f44490a", func := "paddock/paddockkeep.SystemGood", spec := "systemGood", inPlace := ["slices.overlaps[paddock/api.Block]", "slices.overlaps[string]", "slices.overlaps[paddock/api.List]", "slices.overlaps[paddock/api.Slab]"], unfollowed := true, recurses := true, named := ["paddock/kmem.sizes", "internal/strconv.uint64pow10", "math/bits.deBruijn32tab", "math/bits.deBruijn64tab", "paddock/buddy.others"], apart := false, laid := [("math/bits.deBruijn32tab", laid_math_bits_deBruijn32tab), ("math/bits.deBruijn64tab", laid_math_bits_deBruijn64tab), ("internal/strconv.uint64pow10", laid_internal_strconv_uint64pow10), ("paddock/buddy.others", laid_paddock_buddy_others), ("paddock/kmem.sizes", laid_paddock_kmem_sizes)], narrowed := true }
def SystemGoodUptoSaid : Prop := systemGoodUptoRow.holds Tryz.pinned (OpenSpec.upto systemGoodSpec)

/-- 'paddockkeep.ThingsApart', WHERE WHAT IT READS IS OF BULK AT MOST 1048576: true; the input reads as it did. -/
def thingsApartUptoRow : OpenClaim := { program := "ytcmpmobhongkiaagreatdoor", sum := "543217ba7ebf25ddf4174d3df4527dd9c407b99f2774627f755c958f6f44490a", func := "paddock/paddockkeep.ThingsApart", spec := "thingsApart", inPlace := ["slices.overlaps[paddock/api.Block]", "slices.overlaps[string]", "slices.overlaps[paddock/api.List]", "slices.overlaps[paddock/api.Slab]"], unfollowed := true, recurses := true, named := ["paddock/kmem.sizes", "internal/strconv.uint64pow10", "math/bits.deBruijn32tab", "math/bits.deBruijn64tab", "paddock/buddy.others"], apart := false, laid := [("math/bits.deBruijn32tab", laid_math_bits_deBruijn32tab), ("math/bits.deBruijn64tab", laid_math_bits_deBruijn64tab), ("internal/strconv.uint64pow10", laid_internal_strconv_uint64pow10), ("paddock/buddy.others", laid_paddock_buddy_others), ("paddock/kmem.sizes", laid_paddock_kmem_sizes)], narrowed := true }
def ThingsApartUptoSaid : Prop := thingsApartUptoRow.holds Tryz.pinned (OpenSpec.upto thingsApartSpec)

/-- 'paddockkeep.WordsStay', WHERE WHAT IT READS IS OF BULK AT MOST 1048576: true; the input reads as it did. -/
def wordsStayUptoRow : OpenClaim := { program := "ytcmpmobhongkiaagreatdoor", sum := "543217ba7ebf25ddf4174d3df4527dd9c407b99f2774627f755c958f6f44490a", func := "paddock/paddockkeep.WordsStay", spec := "wordsStay", inPlace := ["slices.overlaps[paddock/api.Block]", "slices.overlaps[string]", "slices.overlaps[paddock/api.List]", "slices.overlaps[paddock/api.Slab]"], unfollowed := true, recurses := true, named := ["paddock/kmem.sizes", "internal/strconv.uint64pow10", "math/bits.deBruijn32tab", "math/bits.deBruijn64tab", "paddock/buddy.others"], apart := false, laid := [("math/bits.deBruijn32tab", laid_math_bits_deBruijn32tab), ("math/bits.deBruijn64tab", laid_math_bits_deBruijn64tab), ("internal/strconv.uint64pow10", laid_internal_strconv_uint64pow10), ("paddock/buddy.others", laid_paddock_buddy_others), ("paddock/kmem.sizes", laid_paddock_kmem_sizes)], narrowed := true }
def WordsStayUptoSaid : Prop := wordsStayUptoRow.holds Tryz.pinned (OpenSpec.upto wordsStaySpec)

/-- 'paddockkeep.TwiceRefused', WHERE WHAT IT READS IS OF BULK AT MOST 1048576: true; the input reads as it did. -/
def twiceRefusedUptoRow : OpenClaim := { program := "ytcmpmobhongkiaagreatdoor", sum := "543217ba7ebf25ddf4174d3df4527dd9c407b99f2774627f755c958f6f44490a", func := "paddock/paddockkeep.TwiceRefused", spec := "twiceRefused", inPlace := ["slices.overlaps[paddock/api.Block]", "slices.overlaps[string]", "slices.overlaps[paddock/api.List]", "slices.overlaps[paddock/api.Slab]"], unfollowed := true, recurses := true, named := ["paddock/kmem.sizes", "internal/strconv.uint64pow10", "math/bits.deBruijn32tab", "math/bits.deBruijn64tab", "paddock/buddy.others"], apart := false, laid := [("math/bits.deBruijn32tab", laid_math_bits_deBruijn32tab), ("math/bits.deBruijn64tab", laid_math_bits_deBruijn64tab), ("internal/strconv.uint64pow10", laid_internal_strconv_uint64pow10), ("paddock/buddy.others", laid_paddock_buddy_others), ("paddock/kmem.sizes", laid_paddock_kmem_sizes)], narrowed := true }
def TwiceRefusedUptoSaid : Prop := twiceRefusedUptoRow.holds Tryz.pinned (OpenSpec.upto twiceRefusedSpec)

/-- 'paddockkeep.FindsAway', WHERE WHAT IT READS IS OF BULK AT MOST 1048576: true; the input reads as it did. -/
def findsAwayUptoRow : OpenClaim := { program := "ytcmpmobhongkiaagreatdoor", sum := "543217ba7ebf25ddf4174d3df4527dd9c407b99f2774627f755c958f6f44490a", func := "paddock/paddockkeep.FindsAway", spec := "findsAway", inPlace := ["slices.overlaps[paddock/api.Block]", "slices.overlaps[string]", "slices.overlaps[paddock/api.List]", "slices.overlaps[paddock/api.Slab]"], unfollowed := true, recurses := true, named := ["paddock/kmem.sizes", "internal/strconv.uint64pow10", "math/bits.deBruijn32tab", "math/bits.deBruijn64tab", "paddock/buddy.others"], apart := false, laid := [("math/bits.deBruijn32tab", laid_math_bits_deBruijn32tab), ("math/bits.deBruijn64tab", laid_math_bits_deBruijn64tab), ("internal/strconv.uint64pow10", laid_internal_strconv_uint64pow10), ("paddock/buddy.others", laid_paddock_buddy_others), ("paddock/kmem.sizes", laid_paddock_kmem_sizes)], narrowed := true }
def FindsAwayUptoSaid : Prop := findsAwayUptoRow.holds Tryz.pinned (OpenSpec.upto findsAwaySpec)

/-- 'paddockkeep.ResizeKeeps', WHERE WHAT IT READS IS OF BULK AT MOST 1048576: true; the input reads as it did. -/
def resizeKeepsUptoRow : OpenClaim := { program := "ytcmpmobhongkiaagreatdoor", sum := "543217ba7ebf25ddf4174d3df4527dd9c407b99f2774627f755c958f6f44490a", func := "paddock/paddockkeep.ResizeKeeps", spec := "resizeKeeps", inPlace := ["slices.overlaps[paddock/api.Block]", "slices.overlaps[string]", "slices.overlaps[paddock/api.List]", "slices.overlaps[paddock/api.Slab]"], unfollowed := true, recurses := true, named := ["paddock/kmem.sizes", "internal/strconv.uint64pow10", "math/bits.deBruijn32tab", "math/bits.deBruijn64tab", "paddock/buddy.others"], apart := false, laid := [("math/bits.deBruijn32tab", laid_math_bits_deBruijn32tab), ("math/bits.deBruijn64tab", laid_math_bits_deBruijn64tab), ("internal/strconv.uint64pow10", laid_internal_strconv_uint64pow10), ("paddock/buddy.others", laid_paddock_buddy_others), ("paddock/kmem.sizes", laid_paddock_kmem_sizes)], narrowed := true }
def ResizeKeepsUptoSaid : Prop := resizeKeepsUptoRow.holds Tryz.pinned (OpenSpec.upto resizeKeepsSpec)

/-- 'paddockkeep.AllBack', WHERE WHAT IT READS IS OF BULK AT MOST 1048576: true; the input reads as it did. -/
def allBackUptoRow : OpenClaim := { program := "ytcmpmobhongkiaagreatdoor", sum := "543217ba7ebf25ddf4174d3df4527dd9c407b99f2774627f755c958f6f44490a", func := "paddock/paddockkeep.AllBack", spec := "allBack", inPlace := ["slices.overlaps[paddock/api.Block]", "slices.overlaps[string]", "slices.overlaps[paddock/api.List]", "slices.overlaps[paddock/api.Slab]"], unfollowed := true, recurses := true, named := ["paddock/kmem.sizes", "internal/strconv.uint64pow10", "math/bits.deBruijn32tab", "math/bits.deBruijn64tab", "paddock/buddy.others"], apart := false, laid := [("math/bits.deBruijn32tab", laid_math_bits_deBruijn32tab), ("math/bits.deBruijn64tab", laid_math_bits_deBruijn64tab), ("internal/strconv.uint64pow10", laid_internal_strconv_uint64pow10), ("paddock/buddy.others", laid_paddock_buddy_others), ("paddock/kmem.sizes", laid_paddock_kmem_sizes)], narrowed := true }
def AllBackUptoSaid : Prop := allBackUptoRow.holds Tryz.pinned (OpenSpec.upto allBackSpec)

/-- 'paddocktop.TopTwice', WHERE WHAT IT READS IS OF BULK AT MOST 1048576: true; the input reads as it did. -/
def topTwiceUptoRow : OpenClaim := { program := "ytcmpmobhongkiaagreatdoor", sum := "543217ba7ebf25ddf4174d3df4527dd9c407b99f2774627f755c958f6f44490a", func := "paddock/paddocktop.TopTwice", spec := "topTwice", inPlace := ["slices.overlaps[paddock/api.Block]", "slices.overlaps[string]", "slices.overlaps[paddock/api.List]", "slices.overlaps[paddock/api.Slab]"], unfollowed := true, recurses := true, named := ["paddock/kmem.sizes", "internal/strconv.uint64pow10", "math/bits.deBruijn32tab", "math/bits.deBruijn64tab", "paddock/buddy.others"], apart := false, laid := [("math/bits.deBruijn32tab", laid_math_bits_deBruijn32tab), ("math/bits.deBruijn64tab", laid_math_bits_deBruijn64tab), ("internal/strconv.uint64pow10", laid_internal_strconv_uint64pow10), ("paddock/buddy.others", laid_paddock_buddy_others), ("paddock/kmem.sizes", laid_paddock_kmem_sizes)], narrowed := true }
def TopTwiceUptoSaid : Prop := topTwiceUptoRow.holds Tryz.pinned (OpenSpec.upto topTwiceSpec)

/-- 'paddocktop.TopLater', WHERE WHAT IT READS IS OF BULK AT MOST 1048576: true; the input reads as it did. -/
def topLaterUptoRow : OpenClaim := { program := "ytcmpmobhongkiaagreatdoor", sum := "543217ba7ebf25ddf4174d3df4527dd9c407b99f2774627f755c958f6f44490a", func := "paddock/paddocktop.TopLater", spec := "topLater", inPlace := ["slices.overlaps[paddock/api.Block]", "slices.overlaps[string]", "slices.overlaps[paddock/api.List]", "slices.overlaps[paddock/api.Slab]"], unfollowed := true, recurses := true, named := ["paddock/kmem.sizes", "internal/strconv.uint64pow10", "math/bits.deBruijn32tab", "math/bits.deBruijn64tab", "paddock/buddy.others"], apart := false, laid := [("math/bits.deBruijn32tab", laid_math_bits_deBruijn32tab), ("math/bits.deBruijn64tab", laid_math_bits_deBruijn64tab), ("internal/strconv.uint64pow10", laid_internal_strconv_uint64pow10), ("paddock/buddy.others", laid_paddock_buddy_others), ("paddock/kmem.sizes", laid_paddock_kmem_sizes)], narrowed := true }
def TopLaterUptoSaid : Prop := topLaterUptoRow.holds Tryz.pinned (OpenSpec.upto topLaterSpec)

end Rows
end Go.Proofs.YtcmpmobhongkiaaGreatDoor
