/- The walk of paddockkeep.MoveKeeps. -/
import Derived.Test.YtcomljehcmnlmaaStoreLoadsWalk
namespace Go.Proofs.Ytcomljehcmnlmaa
open Go.RowKit
set_option linter.unusedVariables false
attribute [local go_sem ↓] sliced_cut

theorem clone_n (a : Option Addr) (n cap : Nat) (xs : List Int) (w : World) (hn : xs.length = n) (hl : n * 8 ≤ 140737488355328) (hr : Row w a (xs.map vI)) :
    Calls Try.prog 14 #[.slice a n cap] w fun e w' => ∃ a' c', e = .returned (.slice a' n c') ∧ w'.ownsRow w.heap.size 3 1 (.slice a' n c') n (xs.map vI) ∧ Below w.heap.size w w' := by
  subst hn
  exact clone_int a cap xs w hl hr

theorem move_n (a : Option Addr) (len cap : Nat) (xs : List Int) (p q n : Nat) (w : World) (hlen : xs.length = len) (hl : len ≤ 1000000) (hcap : len ≤ cap) (hr : Row w a (xs.map vI)) (hp : p + n ≤ len) (hq : q + n ≤ len) :
    Calls Try.prog 15 #[.slice a len cap, .int .i64 p, .int .i64 q, .int .i64 n] w fun e w' => ∃ a' c', e = .returned (.tuple #[.slice a' len c', .int .i64 0]) ∧ w'.ownsRow w.heap.size 3 1 (.slice a' len c') len ((moveI xs p q n).map vI) ∧ Below w.heap.size w w' := by
  subst hlen
  exact move_ok a cap xs p q n w hl hcap hr hp hq

/-- Equal of two rows that hold the same -/
theorem equal_same (a a2 : Option Addr) (n n2 cap cap2 : Nat) (xs : List Int) (w : World) (hn : xs.length = n) (hn2 : xs.length = n2) (hl : n ≤ 9223372036854775807) (hr : Row w a (xs.map vI)) (hr2 : Row w a2 (xs.map vI)) :
    Calls Try.prog 16 #[.slice a n cap, .slice a2 n2 cap2] w fun e w' => e = .returned (.bool true) ∧ ∃ m, w' = w.drewN m := by
  subst hn; subst hn2
  refine (equal_int a a2 cap cap2 xs xs w hl hl hr hr2).mono fun e w' h => ?_
  rw [show eqI xs xs = true from by unfold eqI; simp] at h
  exact h

theorem cut_list (xs : List Int) (l j : Nat) : ((xs.map vI).drop (l * 1)).take j = ((xs.drop l).take j).map vI := by
  rw [Nat.mul_one, ← List.map_drop, ← List.map_take]

theorem moveI_mid (xs : List Int) (p q k m : Nat) (hx : xs.length = m) (p2 : p + k ≤ m) (q2 : q + k ≤ m) : ((moveI xs p q k).drop p).take k = (xs.drop q).take k := by
  unfold moveI
  have h1 : (xs.take p).length = p := by rw [List.length_take]; omega
  have h2 : ((xs.drop q).take k).length = k := by rw [List.length_take, List.length_drop]; omega
  rw [List.append_assoc, List.drop_left' h1, List.take_left' h2]
theorem moveI_low (xs : List Int) (p q k m : Nat) (hx : xs.length = m) (p2 : p + k ≤ m) : (moveI xs p q k).take p = xs.take p := by
  unfold moveI
  have h1 : (xs.take p).length = p := by rw [List.length_take]; omega
  rw [List.append_assoc, List.take_left' h1]
theorem moveI_high (xs : List Int) (p q k m : Nat) (hx : xs.length = m) (p2 : p + k ≤ m) (q2 : q + k ≤ m) : (moveI xs p q k).drop (p + k) = xs.drop (p + k) := by
  unfold moveI
  have h1 : (xs.take p ++ (xs.drop q).take k).length = p + k := by rw [List.length_append, List.length_take, List.length_take, List.length_drop]; omega
  rw [List.drop_left' h1]
theorem moveI_length (xs : List Int) (p q k m : Nat) (hx : xs.length = m) (p2 : p + k ≤ m) (q2 : q + k ≤ m) : (moveI xs p q k).length = m := by
  unfold moveI
  rw [List.length_append, List.length_append, List.length_take, List.length_take, List.length_drop, List.length_drop]; omega

theorem moveKeeps_core (a : Option Addr) (n c : Nat) (m : Nat) (hm : (n ≤ 40 ∧ m = n) ∨ (40 < n ∧ m = 40)) (hnc : n ≤ c) (hcb : c ≤ 9223372036854775807) (xs : List Int) (hx : xs.length = m) (a1 a2 a3 : Int) (hb1 : -9223372036854775808 ≤ a1 ∧ a1 ≤ 9223372036854775807) (hb2 : -9223372036854775808 ≤ a2 ∧ a2 ≤ 9223372036854775807) (hb3 : -9223372036854775808 ≤ a3 ∧ a3 ≤ 9223372036854775807) (w : World) (hr : Row w a (xs.map vI)) :
    Calls Try.prog 5 #[.slice a n c, .int .i64 a1, .int .i64 a2, .int .i64 a3] w fun e w' => e = .returned (.bool true) ∧ Below w.heap.size w w' := by
  have hm1 : m ≤ 40 := by omega
  have hm2 : m ≤ n := by omega
  have HX := Hid.mk hx
  clear hx
  obtain ⟨k, hk⟩ : ∃ k : Nat, pk a3 ((m : Int) + 1) = k := ⟨(pk a3 ((m : Int) + 1)).toNat, by have := pk_nonneg a3 ((m : Int) + 1) (by omega); omega⟩
  have k2 : k ≤ m := by have := pk_lt a3 ((m : Int) + 1) (by omega); omega
  obtain ⟨p, hp⟩ : ∃ p : Nat, pk a1 ((m : Int) - k + 1) = p := ⟨(pk a1 ((m : Int) - k + 1)).toNat, by have := pk_nonneg a1 ((m : Int) - k + 1) (by omega); omega⟩
  have p2 : p + k ≤ m := by have := pk_lt a1 ((m : Int) - k + 1) (by omega); omega
  obtain ⟨q, hq⟩ : ∃ q : Nat, pk a2 ((m : Int) - k + 1) = q := ⟨(pk a2 ((m : Int) - k + 1)).toNat, by have := pk_nonneg a2 ((m : Int) - k + 1) (by omega); omega⟩
  have q2 : q + k ≤ m := by have := pk_lt a2 ((m : Int) - k + 1) (by omega); omega
  have HK := Hid.mk hk
  have HP := Hid.mk hp
  have HQ := Hid.mk hq
  clear hk hp hq
  have HM : Hid (m = m) := rfl
  have hbad : inB (m : Int) (p : Int) ((m : Int) - (if (p : Int) < q then (q : Int) else p) + 1) = false ∨ inB (m : Int) (q : Int) ((m : Int) - (if (p : Int) < q then (q : Int) else p) + 1) = false := by
    split
    · right; unfold inB; exact decide_eq_false (by omega)
    · left; unfold inB; exact decide_eq_false (by omega)
  have HBAD := Hid.mk hbad
  clear hbad
  have hmid := moveI_mid xs p q k m HX.out p2 q2
  have hlow := moveI_low xs p q k m HX.out p2
  have hhigh := moveI_high xs p q k m HX.out p2 q2
  have hlenx := moveI_length xs p q k m HX.out p2 q2
  have HMID := Hid.mk hmid
  have HLOW := Hid.mk hlow
  have HHIGH := Hid.mk hhigh
  have HLX := Hid.mk hlenx
  clear hmid hlow hhigh hlenx
  rcases hm with ⟨hm, rfl⟩ | ⟨hm, rfl⟩
  · by_cases hpq : (p : Int) < (q : Int)
    · rw [if_pos hpq] at HBAD
      go_enter Try.func5, Try.ntmps5
      go_wp2_with fail
      refine (clone_n _ _ _ xs _ HX.out (by omega) hr).mono ?_; rintro e wa ⟨a', c', rfl, hown, hba⟩
      have HO := Hid.mk hown; have hcc := own_cap hown; clear hown
      go_wp2_with fail
      refine (picked_any _ _ _ (by omega) (by omega) (by omega) (by omega)).mono ?_; rw [HK.out]; rintro e w' ⟨rfl, rfl⟩
      go_wp2_with fail
      refine (picked_any _ _ _ (by omega) (by omega) (by omega) (by omega)).mono ?_; rw [HP.out]; rintro e w' ⟨rfl, rfl⟩
      go_wp2_with fail
      refine (picked_any _ _ _ (by omega) (by omega) (by omega) (by omega)).mono ?_; rw [HQ.out]; rintro e w' ⟨rfl, rfl⟩
      go_wp2_with fail
      refine (move_n _ _ _ xs p q k _ HX.out (by omega) hcc (own_row HO.out) p2 q2).mono ?_; rintro e wb ⟨a2, c2, rfl, hownb, hbb⟩
      have HB := Hid.mk hownb; have hcb2 := own_cap hownb; clear hownb
      go_wp2_with fail
      refine (move_bad _ _ _ _ _ _ _ (by omega) (by omega) (by omega) HBAD.out).mono ?_; rintro e w' ⟨rfl, rfl⟩
      go_wp2_with fail
      have hrx := own_row HB.out
      have hrw := (own_row HO.out).below hbb
      have r1 := hrx.cut p c2 1 k (by omega)
      have r2 := hrw.cut q c' 1 k (by omega)
      rw [cut_list, HMID.out] at r1
      rw [cut_list] at r2
      have r3 := hrx.take p
      have r4 := hrw.take p
      rw [← List.map_take, HLOW.out] at r3
      rw [← List.map_take] at r4
      have r5 := hrx.cut (p + k) c2 1 (m - (p + k)) (by omega)
      have r6 := hrw.cut (p + k) c' 1 (m - (p + k)) (by omega)
      rw [cut_list, HHIGH.out] at r5
      rw [cut_list] at r6
      have l1 : ((xs.drop q).take k).length = k := by rw [List.length_take, List.length_drop, HX.out]; omega
      have l2 : (xs.take p).length = p := by rw [List.length_take, HX.out]; omega
      have l3 : ((xs.drop (p + k)).take (m - (p + k))).length = m - (p + k) := by rw [List.length_take, List.length_drop, HX.out]; omega
      have s1 : IntKind.i64.wrap ((p : Int) + k) = (p : Int) + k := IntWalk.i64_in _ (by omega)
      have s2 : IntKind.i64.wrap ((q : Int) + k) = (q : Int) + k := IntWalk.i64_in _ (by omega)
      have b1 : (p : Int) + k ≤ (c2 : Int) := by omega
      have b2 : (q : Int) + k ≤ (c' : Int) := by omega
      have b3 : (p : Int) ≤ p + k := by omega
      have b4 : (q : Int) ≤ q + k := by omega
      have b5 : (p : Int) ≤ (c2 : Int) := by omega
      have b6 : (p : Int) ≤ (c' : Int) := by omega
      have b7 : (p : Int) + k ≤ (m : Int) := by omega
      have b0 : 0 ≤ (p : Int) + k := by omega
      have n1 : ((p : Int) + k).toNat - p = k := by omega
      have n2 : ((q : Int) + k).toNat - q = k := by omega
      have n3 : ((p : Int) + k).toNat = p + k := by omega
      have R1 := Hid.mk r1; have R2 := Hid.mk r2; have R3 := Hid.mk r3; have R4 := Hid.mk r4; have R5 := Hid.mk r5; have R6 := Hid.mk r6
      have L1 := Hid.mk l1; have L2 := Hid.mk l2; have L3 := Hid.mk l3
      clear r1 r2 r3 r4 r5 r6 l1 l2 l3 hrx hrw
      go_quiet (first | (go_at_call 16; exact Calls.quiet_of (equal_same _ _ _ _ _ _ _ _ L1.out L1.out (by omega) R1.out R2.out)) | (go_at_call 16; exact Calls.quiet_of (equal_same _ _ _ _ _ _ _ _ L2.out L2.out (by omega) R3.out R4.out)) | (go_at_call 16; exact Calls.quiet_of (equal_same _ _ _ _ _ _ _ _ L3.out L3.out (by omega) R5.out R6.out)))
      go_wp2
      go_ret
      exact ⟨rfl, below_drewN (hba.trans (hbb.mono hba.size)) _⟩
    · rw [if_neg hpq] at HBAD
      go_enter Try.func5, Try.ntmps5
      go_wp2_with fail
      refine (clone_n _ _ _ xs _ HX.out (by omega) hr).mono ?_; rintro e wa ⟨a', c', rfl, hown, hba⟩
      have HO := Hid.mk hown; have hcc := own_cap hown; clear hown
      go_wp2_with fail
      refine (picked_any _ _ _ (by omega) (by omega) (by omega) (by omega)).mono ?_; rw [HK.out]; rintro e w' ⟨rfl, rfl⟩
      go_wp2_with fail
      refine (picked_any _ _ _ (by omega) (by omega) (by omega) (by omega)).mono ?_; rw [HP.out]; rintro e w' ⟨rfl, rfl⟩
      go_wp2_with fail
      refine (picked_any _ _ _ (by omega) (by omega) (by omega) (by omega)).mono ?_; rw [HQ.out]; rintro e w' ⟨rfl, rfl⟩
      go_wp2_with fail
      refine (move_n _ _ _ xs p q k _ HX.out (by omega) hcc (own_row HO.out) p2 q2).mono ?_; rintro e wb ⟨a2, c2, rfl, hownb, hbb⟩
      have HB := Hid.mk hownb; have hcb2 := own_cap hownb; clear hownb
      go_wp2_with fail
      refine (move_bad _ _ _ _ _ _ _ (by omega) (by omega) (by omega) HBAD.out).mono ?_; rintro e w' ⟨rfl, rfl⟩
      go_wp2_with fail
      have hrx := own_row HB.out
      have hrw := (own_row HO.out).below hbb
      have r1 := hrx.cut p c2 1 k (by omega)
      have r2 := hrw.cut q c' 1 k (by omega)
      rw [cut_list, HMID.out] at r1
      rw [cut_list] at r2
      have r3 := hrx.take p
      have r4 := hrw.take p
      rw [← List.map_take, HLOW.out] at r3
      rw [← List.map_take] at r4
      have r5 := hrx.cut (p + k) c2 1 (m - (p + k)) (by omega)
      have r6 := hrw.cut (p + k) c' 1 (m - (p + k)) (by omega)
      rw [cut_list, HHIGH.out] at r5
      rw [cut_list] at r6
      have l1 : ((xs.drop q).take k).length = k := by rw [List.length_take, List.length_drop, HX.out]; omega
      have l2 : (xs.take p).length = p := by rw [List.length_take, HX.out]; omega
      have l3 : ((xs.drop (p + k)).take (m - (p + k))).length = m - (p + k) := by rw [List.length_take, List.length_drop, HX.out]; omega
      have s1 : IntKind.i64.wrap ((p : Int) + k) = (p : Int) + k := IntWalk.i64_in _ (by omega)
      have s2 : IntKind.i64.wrap ((q : Int) + k) = (q : Int) + k := IntWalk.i64_in _ (by omega)
      have b1 : (p : Int) + k ≤ (c2 : Int) := by omega
      have b2 : (q : Int) + k ≤ (c' : Int) := by omega
      have b3 : (p : Int) ≤ p + k := by omega
      have b4 : (q : Int) ≤ q + k := by omega
      have b5 : (p : Int) ≤ (c2 : Int) := by omega
      have b6 : (p : Int) ≤ (c' : Int) := by omega
      have b7 : (p : Int) + k ≤ (m : Int) := by omega
      have b0 : 0 ≤ (p : Int) + k := by omega
      have n1 : ((p : Int) + k).toNat - p = k := by omega
      have n2 : ((q : Int) + k).toNat - q = k := by omega
      have n3 : ((p : Int) + k).toNat = p + k := by omega
      have R1 := Hid.mk r1; have R2 := Hid.mk r2; have R3 := Hid.mk r3; have R4 := Hid.mk r4; have R5 := Hid.mk r5; have R6 := Hid.mk r6
      have L1 := Hid.mk l1; have L2 := Hid.mk l2; have L3 := Hid.mk l3
      clear r1 r2 r3 r4 r5 r6 l1 l2 l3 hrx hrw
      go_quiet (first | (go_at_call 16; exact Calls.quiet_of (equal_same _ _ _ _ _ _ _ _ L1.out L1.out (by omega) R1.out R2.out)) | (go_at_call 16; exact Calls.quiet_of (equal_same _ _ _ _ _ _ _ _ L2.out L2.out (by omega) R3.out R4.out)) | (go_at_call 16; exact Calls.quiet_of (equal_same _ _ _ _ _ _ _ _ L3.out L3.out (by omega) R5.out R6.out)))
      go_wp2
      go_ret
      exact ⟨rfl, below_drewN (hba.trans (hbb.mono hba.size)) _⟩
  · have HK1 : Hid (pk a3 41 = (k : Int)) := HK.out
    have HP1 : Hid (pk a1 (40 - (k : Int) + 1) = (p : Int)) := HP.out
    have HQ1 : Hid (pk a2 (40 - (k : Int) + 1) = (q : Int)) := HQ.out
    clear HK HP HQ
    by_cases hpq : (p : Int) < (q : Int)
    · rw [if_pos hpq] at HBAD
      go_enter Try.func5, Try.ntmps5
      go_wp2_with fail
      refine (clone_n _ _ _ xs _ HX.out (by omega) hr).mono ?_; rintro e wa ⟨a', c', rfl, hown, hba⟩
      have HO := Hid.mk hown; have hcc := own_cap hown; clear hown
      go_wp2_with fail
      refine (picked_any _ _ _ (by omega) (by omega) (by omega) (by omega)).mono ?_; rw [HK1.out]; rintro e w' ⟨rfl, rfl⟩
      go_wp2_with fail
      refine (picked_any _ _ _ (by omega) (by omega) (by omega) (by omega)).mono ?_; rw [HP1.out]; rintro e w' ⟨rfl, rfl⟩
      go_wp2_with fail
      refine (picked_any _ _ _ (by omega) (by omega) (by omega) (by omega)).mono ?_; rw [HQ1.out]; rintro e w' ⟨rfl, rfl⟩
      go_wp2_with fail
      refine (move_n _ _ _ xs p q k _ HX.out (by omega) hcc (own_row HO.out) p2 q2).mono ?_; rintro e wb ⟨a2, c2, rfl, hownb, hbb⟩
      have HB := Hid.mk hownb; have hcb2 := own_cap hownb; clear hownb
      go_wp2_with fail
      refine (move_bad _ _ _ _ _ _ _ (by omega) (by omega) (by omega) HBAD.out).mono ?_; rintro e w' ⟨rfl, rfl⟩
      go_wp2_with fail
      have hrx := own_row HB.out
      have hrw := (own_row HO.out).below hbb
      have r1 := hrx.cut p c2 1 k (by omega)
      have r2 := hrw.cut q c' 1 k (by omega)
      rw [cut_list, HMID.out] at r1
      rw [cut_list] at r2
      have r3 := hrx.take p
      have r4 := hrw.take p
      rw [← List.map_take, HLOW.out] at r3
      rw [← List.map_take] at r4
      have r5 := hrx.cut (p + k) c2 1 (40 - (p + k)) (by omega)
      have r6 := hrw.cut (p + k) c' 1 (40 - (p + k)) (by omega)
      rw [cut_list, HHIGH.out] at r5
      rw [cut_list] at r6
      have l1 : ((xs.drop q).take k).length = k := by rw [List.length_take, List.length_drop, HX.out]; omega
      have l2 : (xs.take p).length = p := by rw [List.length_take, HX.out]; omega
      have l3 : ((xs.drop (p + k)).take (40 - (p + k))).length = 40 - (p + k) := by rw [List.length_take, List.length_drop, HX.out]; omega
      have s1 : IntKind.i64.wrap ((p : Int) + k) = (p : Int) + k := IntWalk.i64_in _ (by omega)
      have s2 : IntKind.i64.wrap ((q : Int) + k) = (q : Int) + k := IntWalk.i64_in _ (by omega)
      have b1 : (p : Int) + k ≤ (c2 : Int) := by omega
      have b2 : (q : Int) + k ≤ (c' : Int) := by omega
      have b3 : (p : Int) ≤ p + k := by omega
      have b4 : (q : Int) ≤ q + k := by omega
      have b5 : (p : Int) ≤ (c2 : Int) := by omega
      have b6 : (p : Int) ≤ (c' : Int) := by omega
      have b7 : (p : Int) + k ≤ 40 := by omega
      have b0 : 0 ≤ (p : Int) + k := by omega
      have n1 : ((p : Int) + k).toNat - p = k := by omega
      have n2 : ((q : Int) + k).toNat - q = k := by omega
      have n3 : ((p : Int) + k).toNat = p + k := by omega
      have R1 := Hid.mk r1; have R2 := Hid.mk r2; have R3 := Hid.mk r3; have R4 := Hid.mk r4; have R5 := Hid.mk r5; have R6 := Hid.mk r6
      have L1 := Hid.mk l1; have L2 := Hid.mk l2; have L3 := Hid.mk l3
      clear r1 r2 r3 r4 r5 r6 l1 l2 l3 hrx hrw
      go_quiet (first | (go_at_call 16; exact Calls.quiet_of (equal_same _ _ _ _ _ _ _ _ L1.out L1.out (by omega) R1.out R2.out)) | (go_at_call 16; exact Calls.quiet_of (equal_same _ _ _ _ _ _ _ _ L2.out L2.out (by omega) R3.out R4.out)) | (go_at_call 16; exact Calls.quiet_of (equal_same _ _ _ _ _ _ _ _ L3.out L3.out (by omega) R5.out R6.out)))
      go_wp2
      go_ret
      exact ⟨rfl, below_drewN (hba.trans (hbb.mono hba.size)) _⟩
    · rw [if_neg hpq] at HBAD
      go_enter Try.func5, Try.ntmps5
      go_wp2_with fail
      refine (clone_n _ _ _ xs _ HX.out (by omega) hr).mono ?_; rintro e wa ⟨a', c', rfl, hown, hba⟩
      have HO := Hid.mk hown; have hcc := own_cap hown; clear hown
      go_wp2_with fail
      refine (picked_any _ _ _ (by omega) (by omega) (by omega) (by omega)).mono ?_; rw [HK1.out]; rintro e w' ⟨rfl, rfl⟩
      go_wp2_with fail
      refine (picked_any _ _ _ (by omega) (by omega) (by omega) (by omega)).mono ?_; rw [HP1.out]; rintro e w' ⟨rfl, rfl⟩
      go_wp2_with fail
      refine (picked_any _ _ _ (by omega) (by omega) (by omega) (by omega)).mono ?_; rw [HQ1.out]; rintro e w' ⟨rfl, rfl⟩
      go_wp2_with fail
      refine (move_n _ _ _ xs p q k _ HX.out (by omega) hcc (own_row HO.out) p2 q2).mono ?_; rintro e wb ⟨a2, c2, rfl, hownb, hbb⟩
      have HB := Hid.mk hownb; have hcb2 := own_cap hownb; clear hownb
      go_wp2_with fail
      refine (move_bad _ _ _ _ _ _ _ (by omega) (by omega) (by omega) HBAD.out).mono ?_; rintro e w' ⟨rfl, rfl⟩
      go_wp2_with fail
      have hrx := own_row HB.out
      have hrw := (own_row HO.out).below hbb
      have r1 := hrx.cut p c2 1 k (by omega)
      have r2 := hrw.cut q c' 1 k (by omega)
      rw [cut_list, HMID.out] at r1
      rw [cut_list] at r2
      have r3 := hrx.take p
      have r4 := hrw.take p
      rw [← List.map_take, HLOW.out] at r3
      rw [← List.map_take] at r4
      have r5 := hrx.cut (p + k) c2 1 (40 - (p + k)) (by omega)
      have r6 := hrw.cut (p + k) c' 1 (40 - (p + k)) (by omega)
      rw [cut_list, HHIGH.out] at r5
      rw [cut_list] at r6
      have l1 : ((xs.drop q).take k).length = k := by rw [List.length_take, List.length_drop, HX.out]; omega
      have l2 : (xs.take p).length = p := by rw [List.length_take, HX.out]; omega
      have l3 : ((xs.drop (p + k)).take (40 - (p + k))).length = 40 - (p + k) := by rw [List.length_take, List.length_drop, HX.out]; omega
      have s1 : IntKind.i64.wrap ((p : Int) + k) = (p : Int) + k := IntWalk.i64_in _ (by omega)
      have s2 : IntKind.i64.wrap ((q : Int) + k) = (q : Int) + k := IntWalk.i64_in _ (by omega)
      have b1 : (p : Int) + k ≤ (c2 : Int) := by omega
      have b2 : (q : Int) + k ≤ (c' : Int) := by omega
      have b3 : (p : Int) ≤ p + k := by omega
      have b4 : (q : Int) ≤ q + k := by omega
      have b5 : (p : Int) ≤ (c2 : Int) := by omega
      have b6 : (p : Int) ≤ (c' : Int) := by omega
      have b7 : (p : Int) + k ≤ 40 := by omega
      have b0 : 0 ≤ (p : Int) + k := by omega
      have n1 : ((p : Int) + k).toNat - p = k := by omega
      have n2 : ((q : Int) + k).toNat - q = k := by omega
      have n3 : ((p : Int) + k).toNat = p + k := by omega
      have R1 := Hid.mk r1; have R2 := Hid.mk r2; have R3 := Hid.mk r3; have R4 := Hid.mk r4; have R5 := Hid.mk r5; have R6 := Hid.mk r6
      have L1 := Hid.mk l1; have L2 := Hid.mk l2; have L3 := Hid.mk l3
      clear r1 r2 r3 r4 r5 r6 l1 l2 l3 hrx hrw
      go_quiet (first | (go_at_call 16; exact Calls.quiet_of (equal_same _ _ _ _ _ _ _ _ L1.out L1.out (by omega) R1.out R2.out)) | (go_at_call 16; exact Calls.quiet_of (equal_same _ _ _ _ _ _ _ _ L2.out L2.out (by omega) R3.out R4.out)) | (go_at_call 16; exact Calls.quiet_of (equal_same _ _ _ _ _ _ _ _ L3.out L3.out (by omega) R5.out R6.out)))
      go_wp2
      go_ret
      exact ⟨rfl, below_drewN (hba.trans (hbb.mono hba.size)) _⟩

theorem moveKeeps_walk {w0 : World} (a : Option Addr) (n c : Nat) (zs : List Int) (hz : zs.length = n) (hr : Row w0 a (zs.map vI)) (hnc : n ≤ c) (hcm : c ≤ maxLen) (a1 : Int) (w1 : (Lit.int .i64 a1).wf = true) (a2 : Int) (w2 : (Lit.int .i64 a2).wf = true) (a3 : Int) (w3 : (Lit.int .i64 a3).wf = true) (w : World) (hw : w0 = w) :
    Calls Try.prog 5 #[.slice a n c, .int .i64 a1, .int .i64 a2, .int .i64 a3] w fun e w' => e = .returned (.bool true) ∧ Below w.heap.size w w' := by
  subst hw
  have hc : c ≤ 9223372036854775807 := by unfold maxLen at hcm; exact hcm
  by_cases h : n ≤ 40
  · exact moveKeeps_core a n c n (.inl ⟨h, rfl⟩) hnc hc zs hz a1 a2 a3 (bounds_i64 w1) (bounds_i64 w2) (bounds_i64 w3) _ hr
  · refine moveKeeps_core a n c 40 (.inr ⟨by omega, rfl⟩) hnc hc (zs.take 40) (by rw [List.length_take]; omega) a1 a2 a3 (bounds_i64 w1) (bounds_i64 w2) (bounds_i64 w3) _ ?_
    rw [List.map_take]; exact hr.take 40
end Go.Proofs.Ytcomljehcmnlmaa
