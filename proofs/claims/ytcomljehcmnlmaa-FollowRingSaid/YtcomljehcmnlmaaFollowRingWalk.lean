/- The walk of paddockkeep.FollowRing. -/
import Derived.Test.YtcomljehcmnlmaaRam3
import Derived.Test.YtcomljehcmnlmaaFrame
namespace Go.Proofs.Ytcomljehcmnlmaa
open Go.RowKit
set_option linter.unusedVariables false

/-- the ring of k words -/
def ringI (k : Nat) : List Int := (List.range k).map fun i => ((i + 1) % k : Nat)

theorem ring_err (k : Nat) (h1 : 1 ≤ k) (h2 : k ≤ 10) : follow (ringI k) 0 100 = none := by
  obtain rfl | rfl | rfl | rfl | rfl | rfl | rfl | rfl | rfl | rfl : k = 1 ∨ k = 2 ∨ k = 3 ∨ k = 4 ∨ k = 5 ∨ k = 6 ∨ k = 7 ∨ k = 8 ∨ k = 9 ∨ k = 10 := by omega
  all_goals decide +kernel
theorem ring_out (k : Nat) (h1 : 1 ≤ k) (h2 : k ≤ 10) : follow (ringI k) k 100 = none := by
  obtain rfl | rfl | rfl | rfl | rfl | rfl | rfl | rfl | rfl | rfl : k = 1 ∨ k = 2 ∨ k = 3 ∨ k = 4 ∨ k = 5 ∨ k = 6 ∨ k = 7 ∨ k = 8 ∨ k = 9 ∨ k = 10 := by omega
  all_goals decide +kernel
theorem ring_nil (k : Nat) : follow (ringI k) (-1) 0 = some [] := by unfold follow followF; rfl

theorem ring_length (k : Nat) : (ringI k).length = k := by simp [ringI]

/-- what the ring's loop has written after i rounds -/
def ringTo (k i : Nat) : List Int := (ringI k).take i ++ List.replicate (k - i) 0

theorem ringTo_succ (k i : Nat) (h : i < k) : (ringTo k i).set i (((i + 1) % k : Nat) : Int) = ringTo k (i + 1) := by
  have hl : ((ringI k).take i).length = i := by rw [List.length_take, ring_length]; omega
  unfold ringTo
  rw [List.set_append_right _ _ (by omega), hl, Nat.sub_self, List.take_succ_eq_append_getElem (by rw [ring_length]; exact h)]
  rw [show k - i = (k - (i + 1)) + 1 from by omega, List.replicate_succ, List.set_cons_zero]
  simp [ringI]

theorem followRing_walk (a0 : Int) (w0 : (Lit.int .i64 a0).wf = true) (w : World) :
    Calls Try.prog 4 #[.int .i64 a0] w fun e w' => e = .returned (.bool true) ∧ Below w.heap.size w w' := by
  have hb := bounds_i64 w0
  have p1 := pk_nonneg a0 10 (by omega)
  have p2 := pk_lt a0 10 (by omega)
  obtain ⟨i0, hi, hz, hsize, hby⟩ := info_parts info_int
  generalize hk : (1 + pk a0 10).toNat = k
  have hk1 : 1 ≤ k := by omega
  have hk2 : k ≤ 10 := by omega
  have HK : Hid (1 + pk a0 10 = (k : Int)) := by unfold Hid; omega
  clear hk
  go_enter Try.func4, Try.ntmps4
  go_wp2_with (first | (go_at_call 11; refine (picked_any _ _ _ (by omega) (by omega) (by omega) (by omega)).mono ?_; rintro e w' ⟨rfl, rfl⟩) | (at_make; refine wpList_make_full _ rfl _ _ 27 rfl w.heap.size 3 i0 (.int .i64 0) 1 Try.underlying27 hi hz hsize .i64 .i64 _ _ k rfl rfl HK.out HK.out ?q1 ?q2 ?q3 ?_))
  case q1 => rw [hby]; omega
  case q2 => unfold maxLen; omega
  case q3 => exact Nat.le_refl _
  intro w1 hown hgrow
  rw [toList_madeCells_one] at hown
  have HO := Hid.mk hown
  have hbw := (Below.refl w.heap.size w).grown hgrow (Nat.le_refl _) (by simp)
  clear hown
  go_wp2
  go_loopw [5, 19] (fun _ s19 wr => ∃ i : Nat, i ≤ k ∧ s19 = .int .i64 i ∧ Hid (wr.ownsRow w.heap.size 3 1 (.slice (some ⟨w.heap.size, 0, none⟩) k k) k ((ringTo k i).map vI)) ∧ Below w.heap.size w wr) (fun _ s19 _ => k - (intOf s19).toNat)
  case atStart => exact ⟨0, Nat.zero_le _, rfl, by simpa [ringTo, vI, Hid] using HO.out, hbw⟩
  case round =>
    obtain ⟨i, hi, rfl, hown, hb1⟩ := hrel
    by_cases hlt : i < k
    · obtain ⟨g, v, hg0, hg, hgs, hc, hf⟩ := own_cell hown.out i (by simp [ringTo, ringI]; omega)
      obtain rfl : w.heap.size = g := by simpa using hg0
      have hpos : 1 + pk a0 10 ≠ 0 := by omega
      have hk3 : 1 ≤ 1 + pk a0 10 := by omega
      have hk4 : 1 + pk a0 10 ≤ 10 := by omega
      go_wp2
      go_roundw
      case rel => exact ⟨i + 1, by omega, by go_num, by
        have h := (World.ownsRow.stored hown.out i (vI (((i : Int) + 1) % (1 + pk a0 10)))).1
        rw [← ringTo_succ k i hlt, List.map_set]
        rw [show ((((i + 1) % k : Nat)) : Int) = ((i : Int) + 1) % (1 + pk a0 10) from by rw [HK.out]; simp]
        exact h, hb1.setCell (Nat.le_refl _) _⟩
      case measure => simp [intOf]; omega
    · obtain rfl : i = k := by omega
      have hx : ringTo i i = ringI i := by simp [ringTo, List.take_of_length_le, ring_length]
      rw [hx] at hown
      have hrow := own_row hown.out
      go_wp2_with fail
      refine (follow_none _ _ _ (ringI i) _ _ _ (ring_length i) (by omega) hrow (ring_err i hk1 hk2)).mono ?_
      rintro e w2 ⟨rfl, hb2⟩
      go_wp2_with fail
      rw [HK.out]
      refine (follow_none _ _ _ (ringI i) _ _ _ (ring_length i) (by omega) (hrow.below hb2) (ring_out i hk1 hk2)).mono ?_
      rintro e w3 ⟨rfl, hb3⟩
      have hb23 : Below wr.heap.size wr w3 := hb2.trans (hb3.mono hb2.size)
      go_wp2_with fail
      refine (follow_some _ _ _ (ringI i) _ _ _ (ring_length i) (by omega) (hrow.below hb23) [] (ring_nil i)).mono ?_
      rintro e w4 ⟨a4, c4, rfl, hown4, hb4⟩
      have hb5 : Below w.heap.size w w4 := hb1.trans (((hb23.trans (hb4.mono hb23.size))).mono hb1.size)
      clear hown4 hrow hown HO
      go_wp2
      go_ret
      exact ⟨rfl, hb5⟩
end Go.Proofs.Ytcomljehcmnlmaa
