/- The array [2][256]bool in memory: its zero value, its cells, a whole store into it. -/
import Derived.Test.YteonmoncofcajaaBoot11
import Derived.Laws.IdiomCopy
namespace Go.Proofs.Yteonmoncofcajaa
open Go.RowKit
set_option linter.unusedVariables false

/-- the marks of two sets, one behind the other -/
def arr (f g : Nat → Bool) : Array Value := ((bl f ++ bl g).map vB).toArray
theorem arr_size (f g : Nat → Bool) : (arr f g).size = 512 := by simp [arr, bl_length]
theorem arr_one (f g : Nat → Bool) : ∀ v ∈ (arr f g).toList, v.oneCell' = true := by
  intro v hv
  simp only [arr, List.mem_map] at hv
  obtain ⟨b, _, rfl⟩ := hv
  rfl
theorem arr_0 (f g : Nat → Bool) (p : Nat) (h : p < 256) : (arr f g)[p]? = some (.bool (f p)) := by
  unfold arr
  rw [List.getElem?_toArray, List.getElem?_map, List.getElem?_append_left (by rw [bl_length]; exact h), bl_get f p h]; rfl
theorem arr_1 (f g : Nat → Bool) (p : Nat) (h : p < 256) : (arr f g)[256 + p]? = some (.bool (g p)) := by
  unfold arr
  rw [List.getElem?_toArray, List.getElem?_map, List.getElem?_append_right (by rw [bl_length]; omega), bl_length, Nat.add_sub_cancel_left, bl_get g p h]; rfl
theorem arr_set0 (f g : Nat → Bool) (p : Nat) (h : p < 256) (v : Bool) : (arr f g).setIfInBounds p (.bool v) = arr (fun q => if q = p then v else f q) g := by
  unfold arr
  rw [List.setIfInBounds_toArray]
  congr 1
  show ((bl f ++ bl g).map vB).set p (vB v) = _
  rw [← List.map_set, List.set_append_left _ _ (by rw [bl_length]; exact h), bl_set]
theorem arr_set1 (f g : Nat → Bool) (p : Nat) (h : p < 256) (v : Bool) : (arr f g).setIfInBounds (256 + p) (.bool v) = arr f (fun q => if q = p then v else g q) := by
  unfold arr
  rw [List.setIfInBounds_toArray]
  congr 1
  show ((bl f ++ bl g).map vB).set (256 + p) (vB v) = _
  rw [← List.map_set, List.set_append_right _ _ (by rw [bl_length]; omega), bl_length, Nat.add_sub_cancel_left, bl_set]
theorem arr_congr {f f' g g' : Nat → Bool} (h1 : ∀ p, p < 256 → f p = f' p) (h2 : ∀ p, p < 256 → g p = g' p) : arr f g = arr f' g' := by
  unfold arr; rw [bl_congr h1, bl_congr h2]

theorem info_arr : (Try.prog.info? 44).map (fun i => (i.zero, i.size, i.bytes)) = some (some (.agg (Array.replicate 512 (.bool false))), 512, 512) := by kernel_rfl
theorem zeros_arr : Array.replicate 512 (Value.bool false) = arr (fun _ => false) (fun _ => false) := by
  unfold arr
  rw [show bl (fun _ => false) ++ bl (fun _ => false) = List.replicate 512 false from by decide +kernel, List.map_replicate, ← Array.toList_inj, Array.toList_replicate]
  rfl
theorem zero_arr (w : World) : (zeroValue 44).run Try.prog w = .ok (.agg (arr (fun _ => false) (fun _ => false))) w := by
  obtain ⟨i, hi, hz, hs, hb⟩ := info_parts info_arr
  rw [zeros_arr] at hz
  simp [zeroValue, typeInfo, hi, hz]
theorem size_arr (w : World) : (Go.sizeOf 44).run Try.prog w = .ok 512 w := by
  obtain ⟨i, hi, hz, hs, hb⟩ := info_parts info_arr
  simp [Go.sizeOf, typeInfo, hi, hs]
theorem isAgg_arr (w : World) : (isAgg 44).run Try.prog w = .ok true w := by
  have h : Try.prog.underlying 44 = some (.array 2 43) := by kernel_rfl
  simp [isAgg, run_underlying h]

/-- the cells of a box are loaded -/
theorem load_box {P : Program} {W : World} {b : Nat} {A : Array Value} (h : ∀ o, W.cell? ⟨b, o, none⟩ = A[o]?) : (loadCellsFrom ⟨b, 0, none⟩ 0 A.size #[]).run P W = .ok A W := by
  have := run_loadCells_list (P := P) (w := W) ⟨b, 0, none⟩ A.toList (fun i v hi => by rw [Addr.add_lit, Nat.zero_add, h]; simpa using hi)
  simpa [loadCells] using this
/-- the cells of a box are written whole -/
theorem store_box {P : Program} {W : World} {b : Nat} {A A' : Array Value} (h : ∀ o, W.cell? ⟨b, o, none⟩ = A[o]?) (hf : ∀ o, W.frozen? ⟨b, o, none⟩ = false) (hs : A.size = A'.size) (h1 : ∀ v ∈ A'.toList, v.oneCell' = true) : (storeCells ⟨b, 0, none⟩ A'.toList 0).run P W = .ok () (W.setCells b 0 A'.toList) := by
  refine run_storeCells_cells b 0 A'.toList 0 W (fun j hj => ?_) (fun j hj => hf _) h1
  rw [h]
  have : j < A.size := by simp at hj; omega
  simp [this]
theorem box_setCells {W : World} {b : Nat} {A A' : Array Value} (h : ∀ o, W.cell? ⟨b, o, none⟩ = A[o]?) (hs : A.size = A'.size) (o : Nat) : (W.setCells b 0 A'.toList).cell? ⟨b, o, none⟩ = A'[o]? := by
  by_cases ho : o < A'.size
  · have := World.cell?_setCells_in b A'.toList 0 W (fun j hj => by
      rw [h]
      have : 0 + j < A.size := by simp at hj; omega
      simp only [Nat.zero_add] at this ⊢
      simp [this]) o (by simpa using ho)
    rw [Nat.zero_add] at this
    rw [this]; simp [ho]
  · rw [World.cell?_setCells_out b A'.toList 0 W ⟨b, o, none⟩ (fun _ _ => .inr (by simp only [Array.length_toList]; omega)), h, Array.getElem?_eq_none (by omega), Array.getElem?_eq_none (by omega)]
theorem box_setCells_other {W : World} {b c : Nat} {A : Array Value} (h : ∀ o, W.cell? ⟨b, o, none⟩ = A[o]?) (hne : b ≠ c) (vs : List Value) (o : Nat) : (W.setCells c 0 vs).cell? ⟨b, o, none⟩ = A[o]? := by
  rw [World.cell?_setCells_out c vs 0 W ⟨b, o, none⟩ (fun e => absurd e hne)]; exact h o
theorem frz_setCells {W : World} {b c : Nat} (h : ∀ o, W.frozen? ⟨b, o, none⟩ = false) (vs : List Value) (i : Nat) (o : Nat) : (W.setCells c i vs).frozen? ⟨b, o, none⟩ = false := by
  rw [World.frozen?_setCells]; exact h o
theorem own_setCells {base : Nat} {e : TypeId} {size : Nat} {v : Value} {n : Nat} {xs : List Value} {b : Nat} (hb : v.ownBlock ≠ some b) : ∀ (vs : List Value) (i : Nat) {w : World}, w.ownsRow base e size v n xs → (w.setCells b i vs).ownsRow base e size v n xs
  | [], _, _, h => h
  | u :: vs, i, _, h => own_setCells hb vs (i + 1) (own_set h hb u)
theorem Below.setCells {B : Nat} {w : World} (b : Nat) (hb : B ≤ b) : ∀ (vs : List Value) (i : Nat) {W : World}, Below B w W → Below B w (W.setCells b i vs)
  | [], _, _, h => h
  | u :: vs, i, _, h => Below.setCells b hb vs (i + 1) (h.setCell hb u)
theorem size_setCells (b : Nat) : ∀ (vs : List Value) (i : Nat) (W : World), (W.setCells b i vs).heap.size = W.heap.size
  | [], _, _ => rfl
  | u :: vs, i, W => by rw [World.setCells, size_setCells b vs]; simp
theorem BtOwn.setCells {w : World} {base : Nat} {a1 a2 : Option Addr} {n1 n2 c1 c2 : Nat} {b : Bt} (h : BtOwn w base a1 a2 n1 n2 c1 c2 b) {g : Nat} (hg : (Value.slice a1 n1 c1).ownBlock ≠ some g ∧ (Value.slice a2 n2 c2).ownBlock ≠ some g) (vs : List Value) (i : Nat) : BtOwn (w.setCells g i vs) base a1 a2 n1 n2 c1 c2 b := ⟨h.l1, h.l2, own_setCells hg.1 vs i h.o1, own_setCells hg.2 vs i h.o2⟩
/-- a box beside a written cell -/
theorem box_set_other {W : World} {b c : Nat} {A : Array Value} (h : ∀ o, W.cell? ⟨b, o, none⟩ = A[o]?) (hne : b ≠ c) (i : Nat) (u : Value) (o : Nat) : (W.setCell ⟨c, i, none⟩ u).cell? ⟨b, o, none⟩ = A[o]? := by
  have hx : (⟨b, o, none⟩ : Addr) ≠ ⟨c, i, none⟩ := fun e => hne (by simpa using congrArg Addr.block e)
  first | exact (World.cell?_setCell_other _ _ _ _ hx).trans (h o) | exact (World.cell?_setCell_other _ _ _ _ hx.symm).trans (h o) | simp_all [go_sem]
end Go.Proofs.Yteonmoncofcajaa
