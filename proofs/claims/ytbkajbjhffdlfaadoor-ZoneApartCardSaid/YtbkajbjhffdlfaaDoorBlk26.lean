/- How often a page is in a list of blocks; the array [256]int in memory. -/
import Derived.Test.YtbkajbjhffdlfaaDoorBlk8
import Derived.Laws.IdiomCopy
namespace Go.Proofs.YtbkajbjhffdlfaaDoor
open Go.RowKit
set_option linter.unusedVariables false

def cntL (l : List Bk) (p : Nat) : Nat := (l.filter fun b => decide (b.a ≤ p ∧ p < b.fin)).length
theorem cntL_cons (b : Bk) (l : List Bk) (p : Nat) : cntL (b :: l) p = (if b.a ≤ p ∧ p < b.fin then 1 else 0) + cntL l p := by
  unfold cntL
  by_cases h : b.a ≤ p ∧ p < b.fin
  · rw [List.filter_cons_of_pos (by simpa using h), if_pos h, List.length_cons]; omega
  · rw [List.filter_cons_of_neg (by simpa using h), if_neg h]; omega
theorem cntL_take (l : List Bk) (i : Nat) (hi : i < l.length) (p : Nat) : cntL (l.take (i + 1)) p = cntL (l.take i) p + (if l[i].a ≤ p ∧ p < l[i].fin then 1 else 0) := by
  unfold cntL
  rw [List.take_succ_eq_append_getElem hi, List.filter_append, List.length_append]
  congr 1
  by_cases h : l[i].a ≤ p ∧ p < l[i].fin
  · rw [List.filter_cons_of_pos (by simpa using h), if_pos h]; rfl
  · rw [List.filter_cons_of_neg (by simpa using h), if_neg h]; rfl
theorem cntL_le (l : List Bk) (p : Nat) : cntL l p ≤ l.length := List.length_filter_le _ _
theorem cntL_cov {l : List Bk} (hd : l.Pairwise fun b c => apartB b.a b.o c) (p : Nat) : (covL l p → cntL l p = 1) ∧ (¬ covL l p → cntL l p = 0) := by
  induction l with
  | nil => exact ⟨fun ⟨b, hb, _⟩ => by simp at hb, fun _ => rfl⟩
  | cons b l ih =>
    obtain ⟨h1, h2⟩ := List.pairwise_cons.1 hd
    obtain ⟨g1, g2⟩ := ih h2
    rw [cntL_cons]
    by_cases hb : b.a ≤ p ∧ p < b.fin
    · rw [if_pos hb]
      have hn : ¬ covL l p := fun ⟨c, hc, hp⟩ => by
        have := h1 c hc
        unfold apartB Bk.fin at *
        unfold inB at hp
        omega
      exact ⟨fun _ => by rw [g2 hn], fun h => absurd ⟨b, by simp, by unfold inB; unfold Bk.fin at hb; exact hb⟩ h⟩
    · rw [if_neg hb, Nat.zero_add]
      refine ⟨fun ⟨c, hc, hp⟩ => ?_, fun h => g2 fun ⟨c, hc, hp⟩ => h ⟨c, by simp [hc], hp⟩⟩
      rw [List.mem_cons] at hc
      rcases hc with rfl | hc
      · exact absurd (by unfold inB at hp; unfold Bk.fin; exact hp) hb
      · exact g1 ⟨c, hc, hp⟩

/-! ## The array -/
def arrI (f : Nat → Nat) : Array Value := ((List.range 256).map fun p => Value.int .i64 (f p : Int)).toArray
theorem arrI_size (f : Nat → Nat) : (arrI f).size = 256 := by simp [arrI]
theorem arrI_get (f : Nat → Nat) (p : Nat) (h : p < 256) : (arrI f)[p]? = some (.int .i64 (f p : Int)) := by
  unfold arrI
  rw [List.getElem?_toArray, List.getElem?_map, List.getElem?_range h]
  rfl
theorem arrI_set (f g : Nat → Nat) (q : Nat) (hq : q < 256) (v : Int) (hv : (g q : Int) = v) (h : ∀ p, p < 256 → p ≠ q → g p = f p) : (arrI f).setIfInBounds q (.int .i64 v) = arrI g := by
  apply Array.ext_getElem?
  intro i
  rw [Array.getElem?_setIfInBounds]
  by_cases hi : i < 256
  · rw [arrI_get g i hi]
    by_cases hiq : q = i
    · subst hiq
      rw [if_pos rfl, if_pos (by rw [arrI_size]; exact hi), hv]
    · rw [if_neg hiq, arrI_get f i hi, h i hi (fun e => hiq e.symm)]
  · rw [Array.getElem?_eq_none (show (arrI g).size ≤ i by rw [arrI_size]; omega)]
    by_cases hiq : q = i
    · omega
    · rw [if_neg hiq, Array.getElem?_eq_none (show (arrI f).size ≤ i by rw [arrI_size]; omega)]
theorem arrI_congr {f g : Nat → Nat} (h : ∀ p, p < 256 → f p = g p) : arrI f = arrI g := by
  unfold arrI
  congr 1
  exact List.map_congr_left fun p hp => by rw [h p (List.mem_range.1 hp)]
theorem info_arrI : (Tryd.prog.info? 33).map (fun i => (i.zero, i.size, i.bytes)) = some (some (.agg (Array.replicate 256 (.int .i64 0))), 256, 2048) := by kernel_rfl
theorem zeros_arrI : Array.replicate 256 (Value.int .i64 0) = arrI (fun _ => 0) := by
  apply Array.ext_getElem?
  intro i
  by_cases hi : i < 256
  · rw [arrI_get _ i hi, Array.getElem?_replicate, if_pos hi]; rfl
  · rw [Array.getElem?_eq_none (show (arrI fun _ => 0).size ≤ i by rw [arrI_size]; omega), Array.getElem?_replicate, if_neg hi]
theorem zero_arrI (w : World) : (zeroValue 33).run Tryd.prog w = .ok (.agg (arrI (fun _ => 0))) w := by
  obtain ⟨i, hi, hz, hs, hb⟩ := info_parts info_arrI
  rw [zeros_arrI] at hz
  simp [zeroValue, typeInfo, hi, hz]
theorem size_arrI' (w : World) : (Go.sizeOf 33).run Tryd.prog w = .ok 256 w := by
  obtain ⟨i, hi, hz, hs, hb⟩ := info_parts info_arrI
  simp [Go.sizeOf, typeInfo, hi, hs]
theorem isAgg_arrI (w : World) : (isAgg 33).run Tryd.prog w = .ok true w := by
  simp [isAgg, run_underlying Tryd.underlying33]
theorem idx_arrI (f : Nat → Nat) (i : Nat) (hi : i < 256) (W : World) : Sem.run Tryd.prog (Instr.index 33 (.agg (arrI f)) (.int .i64 i)) W = .ok (.int .i64 (f i : Int)) W := by
  obtain ⟨i0, hi0, hz, hsize, hby⟩ := info_parts info_int
  have hg := arrI_get f i hi
  simp [Instr.index, run_underlying Tryd.underlying33, sizeOf, typeInfo, hi0, hsize, part, go_sem, hg]
  intro h
  omega
/-- the cells of a box are loaded -/
theorem load_box {P : Program} {W : World} {b : Nat} {A : Array Value} (h : ∀ o, W.cell? ⟨b, o, none⟩ = A[o]?) : (loadCellsFrom ⟨b, 0, none⟩ 0 A.size #[]).run P W = .ok A W := by
  have := run_loadCells_list (P := P) (w := W) ⟨b, 0, none⟩ A.toList (fun i v hi => by rw [Addr.add_lit, Nat.zero_add, h]; simpa using hi)
  simpa [loadCells] using this
end Go.Proofs.YtbkajbjhffdlfaaDoor
