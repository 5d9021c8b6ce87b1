/- Contracts of package buddy: New. -/
import Derived.Test.YtbkajbjhffdlfaaDoorBlk6
namespace Go.Proofs.YtbkajbjhffdlfaaDoor
open Go.RowKit
set_option linter.unusedVariables false

theorem flatT_set (y : List Nat) (i t : Nat) : (flat encT y).set i (vI t) = flat encT (y.set i t) := by
  have h : ∀ y : List Nat, flat encT y = y.map fun (t : Nat) => vI t := fun y => by
    unfold flat encT
    induction y with
    | nil => rfl
    | cons x y ih => rw [List.flatMap_cons, ih]; rfl
  rw [h, h, List.map_set]
theorem flatT_rep (k v : Nat) : flat encT (List.replicate k v) = List.replicate k (vI v) := by
  unfold flat encT
  induction k with
  | zero => rfl
  | succ k ih => rw [List.replicate_succ, List.flatMap_cons, ih]; rfl

set_option maxHeartbeats 1000000 in
set_option maxRecDepth 100000 in
theorem new_ok (f e k : Nat) (w : World) (h1 : f ≤ e) (h2 : e ≤ 256) (h3 : f % 16 = 0) (h4 : e % 16 = 0) (hk : k = (e - f) / 8) :
    Calls Tryd.prog 25 #[.int .i64 f, .int .i64 e] w fun ev w' => ∃ a2 c2, ev = .returned (.tuple #[.agg #[.int .i64 f, .int .i64 e, .slice none 0 0, .slice a2 k c2], .int .i64 0]) ∧ ZOwn w' w.heap.size none a2 0 k 0 c2 ⟨f, e, [], List.replicate k 1⟩ ∧ Below w.heap.size w w' := by
  obtain ⟨i0, hi, hz, hsize, hby⟩ := info_parts info_int
  have d1 : decide ((256 : Int) < e) = false := decide_eq_false (by omega)
  have d2 : decide (e < f) = false := decide_eq_false (by omega)
  have d3 : (f : Int) % 16 = 0 := by omega
  have d4 : (e : Int) % 16 = 0 := by omega
  have d5 : (f : Int) ≤ e := by omega
  have HK : ((e : Int) - f) / 8 = (k : Int) := by omega
  have hk2 : k ≤ 32 := by omega
  have hk8 : (k : Int) ≤ 32 := by omega
  clear hk
  obtain ⟨K0, F0, hsz0, hbw0⟩ := boxes1 w #[.int .i64 0, .int .i64 0, .slice none 0 0, .slice none 0 0] 26
  go_enter Tryd.func25, Tryd.ntmps25
  go_wp2_with (at_make; refine wpList_make_full _ rfl _ _ 24 rfl (w.alloc (.cells #[.int .i64 0, .int .i64 0, .slice none 0 0, .slice none 0 0] 26)).heap.size 3 i0 (.int .i64 0) 1 Tryd.underlying24 hi hz hsize .i64 .i64 _ _ k rfl rfl HK HK ?q1 ?q2 ?q3 ?_)
  case q1 => rw [hby]; omega
  case q2 => unfold maxLen; omega
  case q3 => exact Nat.le_refl _
  intro w1 hown hgrow
  rw [toList_madeCells_one] at hown
  have hbw1 := hbw0.grown hgrow (by simp) (by simp)
  have hs1 : w.heap.size + 1 < w1.heap.size := by have := (hown.lt _ rfl).2; simpa using this
  have K4 : ∀ o, w1.cell? ⟨w.heap.size, o, none⟩ = (#[.int .i64 0, .int .i64 0, .slice none 0 0, .slice none 0 0] : Array Value)[o]? := fun o => by rw [World.cell?_of_block (hgrow.block w.heap.size (by simp) (by simp))]; exact K0 o
  have F4 : ∀ o, w1.frozen? ⟨w.heap.size, o, none⟩ = false := fun o => by rw [World.frozen?_of_block (hgrow.block w.heap.size (by simp) (by simp))]; exact F0 o
  have hb2 := below_alloc w1 (.cells #[.int .i64 (f : Int), .int .i64 (e : Int), .slice none 0 0, .slice (some ⟨w.heap.size + 1, 0, none⟩) k k] 26)
  have hown2 := own_below hown hb2 (Nat.le_refl _)
  have K6 := box_new w1 #[.int .i64 (f : Int), .int .i64 (e : Int), .slice none 0 0, .slice (some ⟨w.heap.size + 1, 0, none⟩) k k] 26
  have K4b := box_step K4 (by omega) hb2
  have F4b := frz_step F4 (by omega) hb2
  have hs2 : w1.heap.size < (w1.alloc (.cells #[.int .i64 (f : Int), .int .i64 (e : Int), .slice none 0 0, .slice (some ⟨w.heap.size + 1, 0, none⟩) k k] 26)).heap.size := by simp
  have hbw2 := Below.step hbw1 hb2
  rw [show List.replicate k (Value.int .i64 0) = flat encT (List.replicate k 0) from (flatT_rep k 0).symm] at hown2
  have HO2 := Hid.mk hown2
  clear hown hown2 hgrow K4 F4 hbw1 hb2 K0 F0
  go_wp2
  generalize w1.alloc (.cells #[.int .i64 (f : Int), .int .i64 (e : Int), .slice none 0 0, .slice (some ⟨w.heap.size + 1, 0, none⟩) k k] 26) = w2 at *
  generalize w1.heap.size = B6 at *
  go_loopw [7, 41] (fun _ s41 wr => ∃ i : Nat, i ≤ k ∧ s41 = .int .i64 i ∧ Hid (wr.ownsRow (w.heap.size + 1) 3 1 (.slice (some ⟨w.heap.size + 1, 0, none⟩) k k) k (flat encT (List.replicate i 1 ++ List.replicate (k - i) 0))) ∧ Hid (∀ o, wr.cell? ⟨B6, o, none⟩ = (#[.int .i64 (f : Int), .int .i64 (e : Int), .slice none 0 0, .slice (some ⟨w.heap.size + 1, 0, none⟩) k k] : Array Value)[o]?) ∧ Hid (∀ o, wr.cell? ⟨w.heap.size, o, none⟩ = (#[.int .i64 0, .int .i64 0, .slice none 0 0, .slice none 0 0] : Array Value)[o]?) ∧ Hid (∀ o, wr.frozen? ⟨w.heap.size, o, none⟩ = false) ∧ Below w.heap.size w wr) (fun _ s41 _ => k - (intOf s41).toNat)
  case atStart => exact ⟨0, Nat.zero_le _, rfl, by simpa [Hid] using HO2.out, K6, K4b, F4b, hbw2⟩
  case round =>
    obtain ⟨i, hi, rfl, hown, HK6, HK4, HF4, hb3⟩ := hrel
    clear HO2 K6 K4b F4b
    by_cases hlt : i < k
    · obtain ⟨g, v, eg, hg, hgs, hc, hf⟩ := own_cell hown.out i (by rw [flat_length encT_length]; simp; omega)
      obtain rfl : w.heap.size + 1 = g := by simpa using eg
      have K6r := HK6.out
      have h := (World.ownsRow.stored hown.out i (vI 1)).1
      have hset : (flat encT (List.replicate i 1 ++ List.replicate (k - i) 0)).set i (vI 1) = flat encT (List.replicate (i + 1) 1 ++ List.replicate (k - (i + 1)) 0) := by
        rw [show (vI 1) = vI ((1 : Nat) : Int) from rfl, flatT_set]
        congr 1
        rw [List.set_append_right _ _ (by simp), List.length_replicate, Nat.sub_self, show k - i = (k - (i + 1)) + 1 by omega, List.replicate_succ, List.set_cons_zero, List.replicate_succ', List.append_assoc]
        rfl
      rw [hset] at h
      have HN := Hid.mk h
      have HK6' := Hid.mk (box_set_other K6r (c := w.heap.size + 1) (by omega) i (.int .i64 1))
      have HK4' := Hid.mk (box_set_other HK4.out (c := w.heap.size + 1) (by omega) i (.int .i64 1))
      have HF4' := Hid.mk (frz_set HF4.out ⟨w.heap.size + 1, i, none⟩ (.int .i64 1))
      clear h hset hown HK4 HF4
      go_wp2
      go_roundw
      case rel => exact ⟨i + 1, by omega, by go_num, HN.out, HK6'.out, HK4'.out, HF4'.out, hb3.setCell (by simp only; omega) _⟩
      case measure => simp [intOf]; omega
    · obtain rfl : i = k := by omega
      rw [Nat.sub_self, List.replicate_zero, List.append_nil] at hown
      have K6r := HK6.out
      have K4r := HK4.out
      have F4r := HF4.out
      have HZ := Hid.mk (show ZOwn wr (w.heap.size + 1) none (some ⟨w.heap.size + 1, 0, none⟩) 0 i 0 i ⟨f, e, [], List.replicate i 1⟩ from ⟨rfl, by simp, World.ownsRow_nil _ _ _ _, hown.out⟩)
      clear hown HK6 HK4 HF4
      go_wp2
      have nn := HZ.out.ne (g := w.heap.size) (.inl (by omega))
      refine bodyPost_ret (v := .tuple #[.agg #[.int .i64 f, .int .i64 e, .slice none 0 0, .slice (some ⟨w.heap.size + 1, 0, none⟩) i i], .int .i64 0]) (by simp [results, Tryd.results25, go_sem, K4r]) rfl ⟨some ⟨w.heap.size + 1, 0, none⟩, i, rfl, ((((HZ.out.set nn _ _).set nn _ _).set nn _ _).set nn _ _).base (by omega), ?_⟩
      exact Below.setCell (Below.setCell (Below.setCell (Below.setCell hb3 (by simp only; omega) _) (by simp only; omega) _) (by simp only; omega) _) (by simp only; omega) _
end Go.Proofs.YtbkajbjhffdlfaaDoor
