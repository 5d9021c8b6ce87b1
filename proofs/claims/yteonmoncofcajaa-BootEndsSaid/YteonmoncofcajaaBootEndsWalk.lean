/- The walk of paddockkeep.BootEnds. -/
import Derived.Test.YteonmoncofcajaaBoot13
import Derived.Test.YteonmoncofcajaaBootArith
import Derived.Test.YteonmoncofcajaaFrame
namespace Go.Proofs.Yteonmoncofcajaa
open Go.RowKit
set_option linter.unusedVariables false

set_option maxHeartbeats 2000000 in
set_option maxRecDepth 100000 in
theorem bootEnds_walk (a : Option Addr) (n c : Nat) (zs : List Rw) (hn : zs.length = n) {w : World} (hr : Row w a (flat encRw zs)) (hnc : n ≤ c) (hc : c ≤ maxLen) (hwf : ∀ r ∈ zs, r.wf) (x : Int) (wx : (Lit.int .i64 x).wf = true) :
    Calls Try.prog 9 #[.slice a n c, .int .i64 x] w fun e w' => e = .returned (.bool true) ∧ Below w.heap.size w w' := by
  unfold maxLen at hc
  have hz := zero_arr
  have hA1 := size_arr
  have hA2 := isAgg_arr
  have hxb := bounds_i64 wx
  have x1 := pk_nonneg x 20 (by omega)
  have x2 := pk_lt x 20 (by omega)
  go_enter Try.func9, Try.ntmps9
  go_wp2_with fail
  refine (booted_any a n c 20 zs w hn (by omega) (by omega) hr hwf).mono ?_
  rintro e w1 ⟨a1, a2, n1, n2, c1, c2, f, g, rfl, hown, hlf, hlg, hb1⟩
  obtain ⟨K3, K4, F3, F4, hsz, hbw⟩ := boxes2 w1 #[.slice a1 n1 c1, .slice a2 n2 c2] 42 (arr (fun _ => false) (fun _ => false)) 44
  have hst := store_box (P := Try.prog) K4 F4 (show _ = (arr f g).size by rw [arr_size, arr_size]) (arr_one f g)
  have K3' := box_setCells_other K3 (c := w1.heap.size + 1) (by omega) (arr f g).toList
  have K4' := box_setCells K4 (show _ = (arr f g).size by rw [arr_size, arr_size])
  have hb2' := Below.step hb1 hbw
  have hsz1 := hb1.size
  have hb2 := Below.setCells (w1.heap.size + 1) (by omega) (arr f g).toList 0 hb2'
  have hown2 := (hown.below hbw).setCells (hown.ne (.inr (show w1.heap.size ≤ w1.heap.size + 1 by omega))) (arr f g).toList 0
  have hsz2 : w1.heap.size + 1 < _ := Nat.lt_of_lt_of_le hsz (Nat.le_of_eq (size_setCells (w1.heap.size + 1) (arr f g).toList 0 _).symm)
  have hss := arr_size f g
  have hAA := Hid.mk K4'
  clear K3 K4 F3 F4 hsz hbw hb2' hown K4'
  generalize hEq : arr f g = A at *
  have HEq := Hid.mk hEq
  clear hEq
  generalize arr (fun _ => false) (fun _ => false) = Z at *
  generalize 512 = N at *
  go_wp2_with fail
  have K4a := hAA.out
  generalize (((w1.alloc (.cells #[.slice a1 n1 c1, .slice a2 n2 c2] 42)).alloc (.cells Z 44)).setCells (w1.heap.size + 1) 0 A.toList) = w2 at *
  clear hst hAA

  refine (picked_any _ _ _ (by omega) (by omega) (by omega) (by omega)).mono ?_
  rintro e w' ⟨rfl, rfl⟩
  obtain ⟨N0, hN0'⟩ := Int.eq_ofNat_of_zero_le (show 0 ≤ 1 + pk x 20 by omega)
  have hN0 : 1 + pk x 20 = (N0 : Int) := hN0'
  clear hN0'
  have hM := btOf_m (f := f) (g := g) (by omega)
  have hR := btOf_r (f := f) (g := g) (by omega)
  have hck : ∀ r ∈ freeOf (btOf f g), ckRg r = true := regionsOf_ck _
  have hat2 := hown2.at
  clear hown2 K4a
  by_cases hfit : ∃ r ∈ freeOf (btOf f g), fitR 0 256 N0 1 r = true
  · have hle := ends_le (b := btOf f g) (n' := N0) (by omega) (by omega) hfit
    obtain ⟨p, hp1, hp2, hp3, _⟩ := place (b := btOf f g) (n' := N0) (k := 1) (down := false) (by omega) (by omega) (by omega) (by omega) hfit
    obtain ⟨q, hq1, hq2, hq3, _⟩ := place (b := btOf f g) (n' := N0) (k := 1) (down := true) (by omega) (by omega) (by omega) (by omega) hfit
    rw [if_neg (by simp)] at hp1
    rw [if_pos rfl] at hq1
    rw [hp1, hq1] at hle
    obtain ⟨L1, L2⟩ := change_len (f := f) (g := g) (p := p) (n' := N0) (v := true) (m := 20) (by omega) hlf hlg
    obtain ⟨L3, L4⟩ := change_len (f := f) (g := g) (p := q) (n' := N0) (v := true) (m := 20) (by omega) hlf hlg
    go_wp2_with fail
    refine (alloc_up _ _ _ _ _ _ (btOf f g) N0 p 1 0 256 _ hat2 hM hR (by omega) (by omega) (by omega) (by omega) (by omega) (by omega) (by omega) (by omega) (by omega) (by omega) hp1).mono ?_
    rintro e w3 ⟨a3, n3, c3, a4, n4, c4, rfl, hown3, hb_1⟩
    clear hown3
    have K3_1 := box_step K3' (by omega) hb_1
    have hat_1 := hat2.below hb_1
    have hbw_1 := Below.step hb2 hb_1
    have hsz_1 : w1.heap.size + 1 < w3.heap.size := Nat.lt_of_lt_of_le hsz2 hb_1.size
    have hbx_1 := below_alloc w3 (.cells #[.slice a3 n3 c3, .slice a4 n4 c4] 42)
    have K3x_1 := box_step K3_1 (by omega) hbx_1
    have hatx_1 := hat_1.below hbx_1
    have hbwx_1 := Below.step hbw_1 hbx_1
    have hszx_1 : w1.heap.size + 1 < (w3.alloc (.cells #[.slice a3 n3 c3, .slice a4 n4 c4] 42)).heap.size := Nat.lt_of_lt_of_le hsz_1 hbx_1.size
    clear K3' hat2 K3_1 hat_1 hbx_1
    go_wp2_with fail
    generalize w3.alloc (.cells #[.slice a3 n3 c3, .slice a4 n4 c4] 42) = x_1 at *
    refine (alloc_down _ _ _ _ _ _ (btOf f g) N0 q 1 0 256 _ hatx_1 hM hR (by omega) (by omega) (by omega) (by omega) (by omega) (by omega) (by omega) (by omega) (by omega) (by omega) hq1).mono ?_
    rintro e w4 ⟨a5, n5, c5, a6, n6, c6, rfl, hown4, hb_2⟩
    clear hown4
    have K3_2 := box_step K3x_1 (by omega) hb_2
    have hat_2 := hatx_1.below hb_2
    have hbw_2 := Below.step hbwx_1 hb_2
    have hsz_2 : w1.heap.size + 1 < w4.heap.size := Nat.lt_of_lt_of_le hszx_1 hb_2.size
    have hbx_2 := below_alloc w4 (.cells #[.slice a5 n5 c5, .slice a6 n6 c6] 42)
    have K3x_2 := box_step K3_2 (by omega) hbx_2
    have hatx_2 := hat_2.below hbx_2
    have hbwx_2 := Below.step hbw_2 hbx_2
    have hszx_2 : w1.heap.size + 1 < (w4.alloc (.cells #[.slice a5 n5 c5, .slice a6 n6 c6] 42)).heap.size := Nat.lt_of_lt_of_le hsz_2 hbx_2.size
    clear K3x_1 hatx_1 K3_2 hat_2 hbx_2
    go_wp2_with fail
    generalize w4.alloc (.cells #[.slice a5 n5 c5, .slice a6 n6 c6] 42) = x_2 at *
    refine (alloc_none _ _ _ _ _ _ (btOf f g) N0 1 0 ((N0 : Int) - 1) true _ hatx_2 hM hR (by omega) (by omega) (by omega) (by omega) (by omega) (by omega) (by omega) (none_fits hck)).mono ?_
    rintro e w5 ⟨rfl, hb_3⟩
    have hbw_3 := Below.step hbwx_2 hb_3
    go_wp2
    go_ret
    exact ⟨rfl, Below.step hbw_3 (below_alloc _ _)⟩
  · go_wp2_with fail
    refine (alloc_none _ _ _ _ _ _ (btOf f g) N0 1 0 256 false _ hat2 hM hR (by omega) (by omega) (by omega) (by omega) (by omega) (by omega) (by omega) (no_fit hfit)).mono ?_
    rintro e w3 ⟨rfl, hb_1⟩
    have K3_1 := box_step K3' (by omega) hb_1
    have hat_1 := hat2.below hb_1
    have hbw_1 := Below.step hb2 hb_1
    have hsz_1 : w1.heap.size + 1 < w3.heap.size := Nat.lt_of_lt_of_le hsz2 hb_1.size
    have hbx_1 := below_alloc w3 (.cells #[.slice none 0 0, .slice none 0 0] 42)
    have K3x_1 := box_step K3_1 (by omega) hbx_1
    have hatx_1 := hat_1.below hbx_1
    have hbwx_1 := Below.step hbw_1 hbx_1
    have hszx_1 : w1.heap.size + 1 < (w3.alloc (.cells #[.slice none 0 0, .slice none 0 0] 42)).heap.size := Nat.lt_of_lt_of_le hsz_1 hbx_1.size
    clear K3' hat2 K3_1 hat_1 hbx_1
    go_wp2_with fail
    generalize w3.alloc (.cells #[.slice none 0 0, .slice none 0 0] 42) = x_1 at *
    refine (alloc_none _ _ _ _ _ _ (btOf f g) N0 1 0 256 true _ hatx_1 hM hR (by omega) (by omega) (by omega) (by omega) (by omega) (by omega) (by omega) (no_fit hfit)).mono ?_
    rintro e w4 ⟨rfl, hb_2⟩
    have K3_2 := box_step K3x_1 (by omega) hb_2
    have hat_2 := hatx_1.below hb_2
    have hbw_2 := Below.step hbwx_1 hb_2
    have hsz_2 : w1.heap.size + 1 < w4.heap.size := Nat.lt_of_lt_of_le hszx_1 hb_2.size
    have hbx_2 := below_alloc w4 (.cells #[.slice none 0 0, .slice none 0 0] 42)
    have K3x_2 := box_step K3_2 (by omega) hbx_2
    have hatx_2 := hat_2.below hbx_2
    have hbwx_2 := Below.step hbw_2 hbx_2
    have hszx_2 : w1.heap.size + 1 < (w4.alloc (.cells #[.slice none 0 0, .slice none 0 0] 42)).heap.size := Nat.lt_of_lt_of_le hsz_2 hbx_2.size
    clear K3x_1 hatx_1 K3_2 hat_2 hbx_2
    go_wp2_with fail
    generalize w4.alloc (.cells #[.slice none 0 0, .slice none 0 0] 42) = x_2 at *
    refine (alloc_none _ _ _ _ _ _ (btOf f g) N0 1 0 ((N0 : Int) - 1) true _ hatx_2 hM hR (by omega) (by omega) (by omega) (by omega) (by omega) (by omega) (by omega) (none_fits hck)).mono ?_
    rintro e w5 ⟨rfl, hb_3⟩
    have hbw_3 := Below.step hbwx_2 hb_3
    go_wp2
    go_ret
    exact ⟨rfl, Below.step hbw_3 (below_alloc _ _)⟩
end Go.Proofs.Yteonmoncofcajaa
