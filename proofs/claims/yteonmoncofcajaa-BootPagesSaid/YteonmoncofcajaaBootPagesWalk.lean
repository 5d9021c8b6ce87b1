/- The walk of paddockkeep.BootPages. -/
import Derived.Test.YteonmoncofcajaaBoot13
import Derived.Test.YteonmoncofcajaaBoot14
namespace Go.Proofs.Yteonmoncofcajaa
open Go.RowKit
set_option linter.unusedVariables false

/-- the pages that are free are those of the regions -/
theorem free_mem (f g : Nat → Bool) (p : Nat) (hp : p < 256) : ((freeOf (btOf f g)).any fun r => decide (r.f ≤ (p : Int) ∧ (p : Int) < r.f + r.s)) = (f p && !g p) := by
  have h := regionsOf_mem (freeF (btOf f g)) p hp
  unfold inRg inOne at h
  unfold freeOf
  rw [h]
  unfold freeF btOf
  rw [regionsOf_mem f p hp, regionsOf_mem g p hp]

set_option maxHeartbeats 2000000 in
set_option maxRecDepth 100000 in
theorem bootPages_walk (a : Option Addr) (n c : Nat) (zs : List Rw) (hn : zs.length = n) {w : World} (hr : Row w a (flat encRw zs)) (hnc : n ≤ c) (hc : c ≤ maxLen) (hwf : ∀ r ∈ zs, r.wf) :
    Calls Try.prog 8 #[.slice a n c] w fun e w' => e = .returned (.bool true) ∧ Below w.heap.size w w' := by
  unfold maxLen at hc
  have hz := zero_arr
  have hA1 := size_arr
  have hA2 := isAgg_arr
  go_enter Try.func8, Try.ntmps8
  go_wp2_with fail
  refine (booted_any a n c 30 zs w hn (by omega) (by omega) hr hwf).mono ?_
  rintro e w1 ⟨a1, a2, n1, n2, c1, c2, f, g, rfl, hown, hlf, hlg, hb1⟩
  obtain ⟨K3, K4, F3, F4, hsz, hbw⟩ := boxes2 w1 #[.slice a1 n1 c1, .slice a2 n2 c2] 42 (arr (fun _ => false) (fun _ => false)) 44
  have hst := store_box (P := Try.prog) K4 F4 (show _ = (arr f g).size by rw [arr_size, arr_size]) (arr_one f g)
  have K3' := box_setCells_other K3 (c := w1.heap.size + 1) (by omega) (arr f g).toList
  have K4' := box_setCells K4 (show _ = (arr f g).size by rw [arr_size, arr_size])
  have hb2' := Below.step hb1 hbw
  have hsz1 := hb1.size
  have hb2 := Below.setCells (w1.heap.size + 1) (by omega) (arr f g).toList 0 hb2'
  have hown2 := (hown.below hbw).setCells (hown.ne (.inr (show w1.heap.size ≤ w1.heap.size + 1 by omega))) (arr f g).toList 0
  have hsz2 : w1.heap.size + 1 < _ := Nat.lt_of_lt_of_le hsz (Nat.le_of_eq (size_setCells (w1.heap.size + 1) (arr f g).toList 0 _).symm)
  have hss := arr_size f g
  have hAA := Hid.mk K4'
  clear K3 K4 F3 F4 hsz hbw hb2' hown K4'
  generalize hEq : arr f g = A at *
  have HEq := Hid.mk hEq
  clear hEq
  generalize arr (fun _ => false) (fun _ => false) = Z at *
  generalize 512 = N at *
  go_wp2_with fail
  have K4a := hAA.out
  generalize (((w1.alloc (.cells #[.slice a1 n1 c1, .slice a2 n2 c2] 42)).alloc (.cells Z 44)).setCells (w1.heap.size + 1) 0 A.toList) = w2 at *
  clear hst hAA

  refine (ranges_ok _ _ _ _ _ _ (btOf f g) _ hown2.at (btOf_m (by omega)) (btOf_r (by omega))).mono ?_
  rintro e w3 ⟨a3, c3, rfl, hown3, hb3⟩
  have K3b := box_step K3' (by omega) hb3
  have K4b := box_step K4a (by omega) hb3
  have hfree := Hid.mk (own_row hown3)
  have hmem := Hid.mk (free_mem f g)
  have hsm : ∀ r ∈ freeOf (btOf f g), r.small := fun r hr => ck_small (regionsOf_ck _ r hr)
  have hlen : (freeOf (btOf f g)).length ≤ 256 := regTo_len _ 256
  have hat3 := Hid.mk (hown2.below hb3).at
  have hbw3 := Below.step hb2 hb3
  have hsz3 : w1.heap.size + 1 < w3.heap.size := Nat.lt_of_lt_of_le hsz2 hb3.size
  clear hown2 hown3 K3' K4a
  generalize freeOf (btOf f g) = L at *
  go_wp2
  go_loopw [8, 9, 21] (fun _ _ s21 wr => ∃ p : Nat, p ≤ 256 ∧ s21 = .int .i64 p ∧ Below w3.heap.size w3 wr) (fun _ _ s21 _ => 256 - (intOf s21).toNat)
  case atStart => exact ⟨0, by omega, rfl, Below.refl _ _⟩
  case round =>
    obtain ⟨p, hp, rfl, hbr⟩ := hrel
    by_cases hlt : p < 256
    · have hb4 := below_alloc wr (.cells #[.int .i64 (p : Int)] 3)
      have k8 : (wr.alloc (.cells #[.int .i64 (p : Int)] 3)).cell? ⟨wr.heap.size, 0, none⟩ = some (.int .i64 (p : Int)) := box_new wr #[.int .i64 (p : Int)] 3 0
      have hs4 : wr.heap.size < (wr.alloc (.cells #[.int .i64 (p : Int)] 3)).heap.size := by simp
      have hbr4 := Below.step hbr hb4
      have hszr := hbr.size
      have eg : ∀ args w, (callFunc 24 args).run Try.prog w = .ok (.enter 24 args) w := enters_of Try.func24 (by kernel_rfl) rfl
      go_wp2_with fail
      generalize wr.alloc (.cells #[.int .i64 (p : Int)] 3) = w4 at *
      refine (containsFuncRg _ _ _ L _ _ (fun r => decide (r.f ≤ (p : Int) ∧ (p : Int) < r.f + r.s)) _ rfl (by omega) (hfree.out.below hbr4) eg (fun W hW r hr => has_any r p _ W (hsm r hr) (Nat.lt_of_lt_of_le hs4 hW.size) ((hW.cell (p := ⟨wr.heap.size, 0, none⟩) hs4).trans k8))).mono ?_
      rw [hmem.out p hlt]
      rintro e w5 ⟨rfl, hb5⟩
      have hbr5 := Below.step hbr4 hb5
      have k8b := (hb5.cell (p := ⟨wr.heap.size, 0, none⟩) hs4).trans k8
      have kf : w5.cell? ⟨w1.heap.size + 1, p, none⟩ = some (.bool (f p)) := (box_step K4b (by omega) hbr5 p).trans (by rw [← HEq.out]; exact arr_0 f g p hlt)
      have kg : w5.cell? ⟨w1.heap.size + 1, 256 + p, none⟩ = some (.bool (g p)) := (box_step K4b (by omega) hbr5 (256 + p)).trans (by rw [← HEq.out]; exact arr_1 f g p hlt)
      clear k8 hb4
      cases hf : f p with
      | false =>
        rw [hf] at kf
        go_wp2
        go_roundw
        case rel => exact ⟨p + 1, by omega, by go_num, hbr5⟩
        case measure => simp [intOf]; omega
      | true =>
        rw [hf] at kf
        cases hg : g p with
        | false =>
          rw [hg] at kg
          go_wp2
          go_roundw
          case rel => exact ⟨p + 1, by omega, by go_num, hbr5⟩
          case measure => simp [intOf]; omega
        | true =>
          rw [hg] at kg
          go_wp2
          go_roundw
          case rel => exact ⟨p + 1, by omega, by go_num, hbr5⟩
          case measure => simp [intOf]; omega
    · obtain rfl : p = 256 := by omega
      have hatr := hat3.out.below hbr
      have K3c := box_step K3b (by omega) hbr
      clear K3b K4b
      go_wp2_with fail
      refine (bootCheck_ok _ _ _ _ _ _ (regionsOf f) (regionsOf g) _ hatr.l1 hatr.l2 (by have := hatr.l1; simp only [btOf] at this; omega) (by have := hatr.l2; simp only [btOf] at this; omega) hatr.r1 hatr.r2 (fun r hr => ck_small (regionsOf_ck _ r hr)) (fun r hr => ck_small (regionsOf_ck _ r hr)) (regionsOf_ok f (by omega)) (regionsOf_ok g (by omega))).mono ?_
      rintro e w6 ⟨rfl, hb6⟩
      go_wp2
      go_ret
      exact ⟨rfl, Below.step (Below.step hbw3 hbr) hb6⟩
end Go.Proofs.Yteonmoncofcajaa
