/- LaidK: texts of this claim, joined. -/
import Derived.Test.YtkcaheebaicinaaGreatDoorSN50
import Derived.Test.YtkcaheebaicinaaGreatDoorRows
import Derived.WalkKit
import Derived.ProofKit
import Derived.OpenShut
import Derived.Deep.DeepHandedRow
import Derived.Lib.LaidTab
/- The variables of the slabs' laws, as the rows list them. -/
namespace Go.Proofs.YtkcaheebaicinaaGreatDoor
open Go.RowKit

theorem own : ownKnob Tryz.prog.godebug = none := by kernel_rfl
theorem gOth : Tryz.prog.globalNamed "paddock/buddy.others" = some 1 := by kernel_rfl
theorem gOthType : (Tryz.prog.globals[1]?).map (·.type) = some 197 := by kernel_rfl
theorem gSz : Tryz.prog.globalNamed "paddock/kmem.sizes" = some 0 := by kernel_rfl
theorem gSzType : (Tryz.prog.globals[0]?).map (·.type) = some 62 := by kernel_rfl
theorem cellsT3 : Tryz.prog.cellsOf 197 = 6 := by kernel_rfl
theorem cellsT2 : Tryz.prog.cellsOf 196 = 2 := by kernel_rfl
theorem cellsT6 : Tryz.prog.cellsOf 62 = 6 := by kernel_rfl
theorem cellsInt : Tryz.prog.cellsOf 3 = 1 := by kernel_rfl

/-- an array of arrays of integers that reads as the table holds its numbers -/
theorem cells_of_tabs {H : Type} {enc : TypeId × Value → H} {P : Program} {w : World} {base : Nat} {sp : Nat → Bool} {held : Bool} {fuel : Nat} {t e f : TypeId} {n m : Nat} {k : IntKind} {cs : List Value} {zss : List (List Int)} {p : List MemPlace}
    (ht : P.underlying t = some (.array n e)) (he : P.underlying e = some (.array m f)) (hf : P.underlying f = some (.int k)) (hcf : P.cellsOf f = 1) (hce : P.cellsOf e = m) (hct : P.cellsOf t = n * m)
    (h : DataW.trod enc P w base sp held fuel t cs = some (.agg (zss.map fun zs => Lib.tabData k zs), p)) : ∀ i, i < n → ∃ zs, zss[i]? = some zs ∧ (cs.drop (i * m)).take m = zs.map fun z => Value.int k z := by
  cases fuel with
  | zero => simp [DataW.trod] at h
  | succ fuel =>
    simp only [DataW.trod, ht, hce, hct] at h
    split at h
    · rename_i hl
      obtain ⟨xs, hm, hx⟩ := Option.map_eq_some_iff.1 h
      have hxs : xs.map (·.1) = zss.map fun zs => (Lib.tabData k zs : DataW H) := by
        have := congrArg Prod.fst hx
        simpa using this
      intro i hi
      obtain ⟨b, hb, hfi⟩ := Lib.mapM_at hm i i (by simp [hi])
      have h2 : (xs.map (·.1))[i]? = some b.1 := by simp [hb]
      rw [hxs] at h2
      simp only [List.getElem?_map, Option.map_eq_some_iff] at h2
      obtain ⟨zs, hz1, hz2⟩ := h2
      obtain ⟨b1, b2⟩ := b
      simp only at hz2
      subst hz2
      exact ⟨zs, hz1, Lib.cells_of_tab he hf hcf hce hfi⟩
    · cases h

theorem oth_of_laid {W : World} (h : laidMetH Tryz.prog [("math/bits.deBruijn32tab", Rows.laid_math_bits_deBruijn32tab), ("math/bits.deBruijn64tab", Rows.laid_math_bits_deBruijn64tab), ("internal/strconv.uint64pow10", Rows.laid_internal_strconv_uint64pow10), ("paddock/buddy.others", Rows.laid_paddock_buddy_others), ("paddock/kmem.sizes", Rows.laid_paddock_kmem_sizes)] W) : Oth W := by
  obtain ⟨ps, ⟨_, _, _, _, _, _, _, _, _, _, ⟨_, _, _, _, _, _, _, _, _, _, ⟨_, _, _, _, _, _, _, _, _, _, ⟨g', t', cs, fuel, p, q, hg', ht', hvar, hd, _, _⟩, _⟩, _⟩, _⟩, _⟩ := h
  obtain rfl := Option.some.inj (gOth.symm.trans hg')
  obtain rfl := Option.some.inj (gOthType.symm.trans ht')
  have hT := cells_of_tabs (zss := [[2, 1], [2, 0], [0, 1]]) Tryz.underlying197 Tryz.underlying196 Tryz.underlying3 cellsInt cellsT2 cellsT3 hd
  have hc : ∀ i v, cs[i]? = some v → W.cell? ⟨1, i, none⟩ = some v := fun i v hv => (World.var?_cell gOth hvar i).trans hv
  obtain ⟨z0, h0, e0⟩ := hT 0 (by decide)
  obtain ⟨z1, h1, e1⟩ := hT 1 (by decide)
  obtain ⟨z2, h2, e2⟩ := hT 2 (by decide)
  simp only [List.getElem?_cons_zero, List.getElem?_cons_succ, Option.some.injEq] at h0 h1 h2
  subst h0 h1 h2
  have key : ∀ (l : List Value) (a b : Nat) (x y : Value), (l.drop a).take 2 = [x, y] → l[a]? = some x ∧ l[a + 1]? = some y := by
    intro l a b x y h
    have g0 := congrArg (·[0]?) h
    have g1 := congrArg (·[1]?) h
    simp [List.getElem?_drop] at g0 g1
    exact ⟨g0, g1⟩
  obtain ⟨a0, a1⟩ := key cs.toList 0 0 _ _ e0
  obtain ⟨a2, a3⟩ := key cs.toList 2 0 _ _ e1
  obtain ⟨a4, a5⟩ := key cs.toList 4 0 _ _ e2
  rw [Array.getElem?_toList] at a0 a1 a2 a3 a4 a5
  have hc0 := hc 0 _ a0
  refine ⟨by have := World.block_lt_of_cell? W _ hc0; exact this, fun i v hv => ?_⟩
  rcases i with _ | _ | _ | _ | _ | _ | i
  · simp at hv; subst hv; exact hc0
  · simp at hv; subst hv; exact hc 1 _ a1
  · simp at hv; subst hv; exact hc 2 _ a2
  · simp at hv; subst hv; exact hc 3 _ a3
  · simp at hv; subst hv; exact hc 4 _ a4
  · simp at hv; subst hv; exact hc 5 _ a5
  · simp at hv

theorem szs_of_laid {W : World} (h : laidMetH Tryz.prog [("math/bits.deBruijn32tab", Rows.laid_math_bits_deBruijn32tab), ("math/bits.deBruijn64tab", Rows.laid_math_bits_deBruijn64tab), ("internal/strconv.uint64pow10", Rows.laid_internal_strconv_uint64pow10), ("paddock/buddy.others", Rows.laid_paddock_buddy_others), ("paddock/kmem.sizes", Rows.laid_paddock_kmem_sizes)] W) : Szs W := by
  obtain ⟨ps, ⟨_, _, _, _, _, _, _, _, _, _, ⟨_, _, _, _, _, _, _, _, _, _, ⟨_, _, _, _, _, _, _, _, _, _, ⟨_, _, _, _, _, _, _, _, _, _, ⟨g', t', cs, fuel, p, q, hg', ht', hvar, hd, _, _⟩, _⟩, _⟩, _⟩, _⟩, _⟩ := h
  obtain rfl := Option.some.inj (gSz.symm.trans hg')
  obtain rfl := Option.some.inj (gSzType.symm.trans ht')
  have hT := Lib.cells_of_tab (zs := [1, 2, 4, 8, 16, 32]) Tryz.underlying62 Tryz.underlying3 cellsInt cellsT6 hd
  have hc : ∀ i v, cs[i]? = some v → W.cell? ⟨0, i, none⟩ = some v := fun i v hv => (World.var?_cell gSz hvar i).trans hv
  have he : ∀ i : Nat, cs[i]? = ([1, 2, 4, 8, 16, 32].map fun z => Value.int .i64 z)[i]? := fun i => by rw [← Array.getElem?_toList, hT]
  have hc0 := hc 0 (.int .i64 1) (by rw [he]; rfl)
  refine ⟨World.block_lt_of_cell? W _ hc0, fun i v hv => hc i v ?_⟩
  rw [he, ← hv]
  rcases i with _ | _ | _ | _ | _ | _ | i
  all_goals rfl

def putCells (a : Array Value) : Obj → Obj
  | .cells _ t frozen => .cells a t frozen
  | o => o
/-- a world in which the variables hold what the program's text says -/
noncomputable def laidWorld (os : Os) : World :=
  { World.holding Tryz.prog os ⟨#[], #[], []⟩ with heap := ((((((World.holding Tryz.prog os ⟨#[], #[], []⟩).heap.modify 0 (putCells #[.int .i64 1, .int .i64 2, .int .i64 4, .int .i64 8, .int .i64 16, .int .i64 32])).modify 1 (putCells #[.int .i64 2, .int .i64 1, .int .i64 2, .int .i64 0, .int .i64 0, .int .i64 1])).modify 2 (putCells #[.int .u64 1, .int .u64 10, .int .u64 100, .int .u64 1000, .int .u64 10000, .int .u64 100000, .int .u64 1000000, .int .u64 10000000, .int .u64 100000000, .int .u64 1000000000, .int .u64 10000000000, .int .u64 100000000000, .int .u64 1000000000000, .int .u64 10000000000000, .int .u64 100000000000000, .int .u64 1000000000000000, .int .u64 10000000000000000, .int .u64 100000000000000000, .int .u64 1000000000000000000, .int .u64 10000000000000000000])).modify 3 (putCells #[.int .u8 0, .int .u8 1, .int .u8 28, .int .u8 2, .int .u8 29, .int .u8 14, .int .u8 24, .int .u8 3, .int .u8 30, .int .u8 22, .int .u8 20, .int .u8 15, .int .u8 25, .int .u8 17, .int .u8 4, .int .u8 8, .int .u8 31, .int .u8 27, .int .u8 13, .int .u8 23, .int .u8 21, .int .u8 19, .int .u8 16, .int .u8 7, .int .u8 26, .int .u8 12, .int .u8 18, .int .u8 6, .int .u8 11, .int .u8 5, .int .u8 10, .int .u8 9])).modify 4 (putCells #[.int .u8 0, .int .u8 1, .int .u8 56, .int .u8 2, .int .u8 57, .int .u8 49, .int .u8 28, .int .u8 3, .int .u8 61, .int .u8 58, .int .u8 42, .int .u8 50, .int .u8 38, .int .u8 29, .int .u8 17, .int .u8 4, .int .u8 62, .int .u8 47, .int .u8 59, .int .u8 36, .int .u8 45, .int .u8 43, .int .u8 51, .int .u8 22, .int .u8 53, .int .u8 39, .int .u8 33, .int .u8 30, .int .u8 24, .int .u8 18, .int .u8 12, .int .u8 5, .int .u8 63, .int .u8 55, .int .u8 48, .int .u8 27, .int .u8 60, .int .u8 41, .int .u8 37, .int .u8 16, .int .u8 46, .int .u8 35, .int .u8 44, .int .u8 21, .int .u8 52, .int .u8 32, .int .u8 23, .int .u8 11, .int .u8 54, .int .u8 26, .int .u8 40, .int .u8 15, .int .u8 34, .int .u8 20, .int .u8 31, .int .u8 10, .int .u8 25, .int .u8 14, .int .u8 19, .int .u8 9, .int .u8 13, .int .u8 8, .int .u8 7, .int .u8 6])) }
end Go.Proofs.YtkcaheebaicinaaGreatDoor
