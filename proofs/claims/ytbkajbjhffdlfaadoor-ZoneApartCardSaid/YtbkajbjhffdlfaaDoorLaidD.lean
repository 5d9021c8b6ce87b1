/- The table of the other types, as the rows list it. -/
import Derived.Test.YtbkajbjhffdlfaaDoorBlk18
import Derived.Test.YtbkajbjhffdlfaaDoorRows
import Derived.WalkKit
import Derived.ProofKit
import Derived.OpenShut
import Derived.Deep.DeepHandedRow
import Derived.Lib.LaidTab
namespace Go.Proofs.YtbkajbjhffdlfaaDoor
open Go.RowKit

theorem own : ownKnob Tryd.prog.godebug = none := by kernel_rfl
theorem gOth : Tryd.prog.globalNamed "paddock/buddy.others" = some 0 := by kernel_rfl
theorem gOthType : (Tryd.prog.globals[0]?).map (·.type) = some 63 := by kernel_rfl
theorem cellsT3 : Tryd.prog.cellsOf 63 = 6 := by kernel_rfl
theorem cellsT2 : Tryd.prog.cellsOf 62 = 2 := by kernel_rfl
theorem cellsInt : Tryd.prog.cellsOf 3 = 1 := by kernel_rfl

/-- an array of arrays of integers that reads as the table holds its numbers -/
theorem cells_of_tabs {H : Type} {enc : TypeId × Value → H} {P : Program} {w : World} {base : Nat} {sp : Nat → Bool} {held : Bool} {fuel : Nat} {t e f : TypeId} {n m : Nat} {k : IntKind} {cs : List Value} {zss : List (List Int)} {p : List MemPlace}
    (ht : P.underlying t = some (.array n e)) (he : P.underlying e = some (.array m f)) (hf : P.underlying f = some (.int k)) (hcf : P.cellsOf f = 1) (hce : P.cellsOf e = m) (hct : P.cellsOf t = n * m)
    (h : DataW.trod enc P w base sp held fuel t cs = some (.agg (zss.map fun zs => Lib.tabData k zs), p)) : ∀ i, i < n → ∃ zs, zss[i]? = some zs ∧ (cs.drop (i * m)).take m = zs.map fun z => Value.int k z := by
  cases fuel with
  | zero => simp [DataW.trod] at h
  | succ fuel =>
    simp only [DataW.trod, ht, hce, hct] at h
    split at h
    · rename_i hl
      obtain ⟨xs, hm, hx⟩ := Option.map_eq_some_iff.1 h
      have hxs : xs.map (·.1) = zss.map fun zs => (Lib.tabData k zs : DataW H) := by
        have := congrArg Prod.fst hx
        simpa using this
      intro i hi
      obtain ⟨b, hb, hfi⟩ := Lib.mapM_at hm i i (by simp [hi])
      have h2 : (xs.map (·.1))[i]? = some b.1 := by simp [hb]
      rw [hxs] at h2
      simp only [List.getElem?_map, Option.map_eq_some_iff] at h2
      obtain ⟨zs, hz1, hz2⟩ := h2
      obtain ⟨b1, b2⟩ := b
      simp only at hz2
      subst hz2
      exact ⟨zs, hz1, Lib.cells_of_tab he hf hcf hce hfi⟩
    · cases h

theorem oth_of_laid {W : World} (h : laidMetH Tryd.prog [("paddock/buddy.others", Rows.laid_paddock_buddy_others)] W) : Oth W := by
  obtain ⟨ps, ⟨g', t', cs, fuel, p, q, hg', ht', hvar, hd, _, _⟩, _⟩ := h
  obtain rfl := Option.some.inj (gOth.symm.trans hg')
  obtain rfl := Option.some.inj (gOthType.symm.trans ht')
  have hT := cells_of_tabs (zss := [[2, 1], [2, 0], [0, 1]]) Tryd.underlying63 Tryd.underlying62 Tryd.underlying3 cellsInt cellsT2 cellsT3 hd
  have hc : ∀ i v, cs[i]? = some v → W.cell? ⟨0, i, none⟩ = some v := fun i v hv => (World.var?_cell gOth hvar i).trans hv
  obtain ⟨z0, h0, e0⟩ := hT 0 (by decide)
  obtain ⟨z1, h1, e1⟩ := hT 1 (by decide)
  obtain ⟨z2, h2, e2⟩ := hT 2 (by decide)
  simp only [List.getElem?_cons_zero, List.getElem?_cons_succ, Option.some.injEq] at h0 h1 h2
  subst h0 h1 h2
  have key : ∀ (l : List Value) (a b : Nat) (x y : Value), (l.drop a).take 2 = [x, y] → l[a]? = some x ∧ l[a + 1]? = some y := by
    intro l a b x y h
    have g0 := congrArg (·[0]?) h
    have g1 := congrArg (·[1]?) h
    simp [List.getElem?_drop] at g0 g1
    exact ⟨g0, g1⟩
  obtain ⟨a0, a1⟩ := key cs.toList 0 0 _ _ e0
  obtain ⟨a2, a3⟩ := key cs.toList 2 0 _ _ e1
  obtain ⟨a4, a5⟩ := key cs.toList 4 0 _ _ e2
  rw [Array.getElem?_toList] at a0 a1 a2 a3 a4 a5
  have hc0 := hc 0 _ a0
  refine ⟨by have := World.block_lt_of_cell? W _ hc0; exact this, fun i v hv => ?_⟩
  rcases i with _ | _ | _ | _ | _ | _ | i
  · simp at hv; subst hv; exact hc0
  · simp at hv; subst hv; exact hc 1 _ a1
  · simp at hv; subst hv; exact hc 2 _ a2
  · simp at hv; subst hv; exact hc 3 _ a3
  · simp at hv; subst hv; exact hc 4 _ a4
  · simp at hv; subst hv; exact hc 5 _ a5
  · simp at hv

/-- a world in which the table holds what the program's text says -/
noncomputable def laidWorld (os : Os) : World :=
  { World.holding Tryd.prog os ⟨#[], #[], []⟩ with heap := (World.holding Tryd.prog os ⟨#[], #[], []⟩).heap.modify 0 fun
      | .cells _ t frozen => .cells #[.int .i64 2, .int .i64 1, .int .i64 2, .int .i64 0, .int .i64 0, .int .i64 1] t frozen
      | o => o }
end Go.Proofs.YtbkajbjhffdlfaaDoor
