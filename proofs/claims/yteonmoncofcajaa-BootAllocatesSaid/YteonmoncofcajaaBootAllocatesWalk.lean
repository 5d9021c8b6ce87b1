/- The walk of paddockkeep.BootAllocates. -/
import Derived.Test.YteonmoncofcajaaBootArith2
import Derived.Test.YteonmoncofcajaaBoot14
import Derived.Test.YteonmoncofcajaaFrame
namespace Go.Proofs.Yteonmoncofcajaa
open Go.RowKit
set_option linter.unusedVariables false

theorem shl_is (y : Int) (y1 : 0 ≤ y) (y2 : y < 5) : ∃ k : Int, wrap64 (2 ^ y.toNat) = k ∧ 1 ≤ k ∧ k ≤ 16 := by
  obtain rfl | rfl | rfl | rfl | rfl : y = 0 ∨ y = 1 ∨ y = 2 ∨ y = 3 ∨ y = 4 := by omega
  · exact ⟨1, by decide +kernel, by omega, by omega⟩
  · exact ⟨2, by decide +kernel, by omega, by omega⟩
  · exact ⟨4, by decide +kernel, by omega, by omega⟩
  · exact ⟨8, by decide +kernel, by omega, by omega⟩
  · exact ⟨16, by decide +kernel, by omega, by omega⟩

/-- a Boot in a box, and two numbers in boxes -/
structure AInv (w W : World) (B9 B12 : Nat) (a1 a2 : Option Addr) (n1 n2 c1 c2 : Nat) (N0 k : Int) (b : Bt) : Prop where
  k9 : ∀ o, W.cell? ⟨B9, o, none⟩ = (#[.slice a1 n1 c1, .slice a2 n2 c2] : Array Value)[o]?
  k12 : W.cell? ⟨B12, 0, none⟩ = some (.int .i64 N0)
  k13 : W.cell? ⟨B12 + 1, 0, none⟩ = some (.int .i64 k)
  at9 : BtAt W a1 a2 n1 n2 b
  s9 : B9 < W.heap.size
  s12 : B12 + 1 < W.heap.size
  bw : Below w.heap.size w W
theorem AInv.below {w W W' : World} {B9 B12 : Nat} {a1 a2 : Option Addr} {n1 n2 c1 c2 : Nat} {N0 k : Int} {b : Bt} (h : AInv w W B9 B12 a1 a2 n1 n2 c1 c2 N0 k b) (hb : Below W.heap.size W W') : AInv w W' B9 B12 a1 a2 n1 n2 c1 c2 N0 k b :=
  have s9 := h.s9
  have s12 := h.s12
  ⟨box_step h.k9 s9 hb, (hb.cell (p := ⟨B12, 0, none⟩) (by simp only; omega)).trans h.k12, (hb.cell (p := ⟨B12 + 1, 0, none⟩) s12).trans h.k13, h.at9.below hb, Nat.lt_of_lt_of_le s9 hb.size, Nat.lt_of_lt_of_le s12 hb.size, Below.step h.bw hb⟩
/-- what Alloc gave, in boxes -/
structure XInv (W : World) (B14 : Nat) (a1 a2 : Option Addr) (n1 n2 c1 c2 : Nat) (p : Int) (b : Bt) : Prop where
  k14 : ∀ o, W.cell? ⟨B14, o, none⟩ = (#[.slice a1 n1 c1, .slice a2 n2 c2] : Array Value)[o]?
  k15 : W.cell? ⟨B14 + 1, 0, none⟩ = some (.int .i64 p)
  atx : BtAt W a1 a2 n1 n2 b
  s14 : B14 + 1 < W.heap.size
theorem XInv.below {W W' : World} {B14 : Nat} {a1 a2 : Option Addr} {n1 n2 c1 c2 : Nat} {p : Int} {b : Bt} (h : XInv W B14 a1 a2 n1 n2 c1 c2 p b) (hb : Below W.heap.size W W') : XInv W' B14 a1 a2 n1 n2 c1 c2 p b :=
  have s14 := h.s14
  ⟨box_step h.k14 (by omega) hb, (hb.cell (p := ⟨B14 + 1, 0, none⟩) s14).trans h.k15, h.atx.below hb, Nat.lt_of_lt_of_le s14 hb.size⟩

theorem rg_small {f : Nat → Bool} : ∀ r ∈ regionsOf f, r.small := fun r hr => ck_small (regionsOf_ck _ r hr)

set_option maxHeartbeats 4000000 in
set_option maxRecDepth 100000 in
theorem bootAllocates_walk (a : Option Addr) (n c : Nat) (zs : List Rw) (hn : zs.length = n) {w : World} (hr : Row w a (flat encRw zs)) (hnc : n ≤ c) (hc : c ≤ maxLen) (hwf : ∀ r ∈ zs, r.wf) (x : Int) (wx : (Lit.int .i64 x).wf = true) (y : Int) (wy : (Lit.int .i64 y).wf = true) (down : Bool) :
    Calls Try.prog 10 #[.slice a n c, .int .i64 x, .int .i64 y, .bool down] w fun e w' => e = .returned (.bool true) ∧ Below w.heap.size w w' := by
  unfold maxLen at hc
  have hz := zero_arr
  have hA1 := size_arr
  have hA2 := isAgg_arr
  have hxb := bounds_i64 wx
  have hyb := bounds_i64 wy
  have x1 := pk_nonneg x 20 (by omega)
  have x2 := pk_lt x 20 (by omega)
  have y1 := pk_nonneg y 5 (by omega)
  have y2 := pk_lt y 5 (by omega)
  go_enter Try.func10, Try.ntmps10
  go_wp2_with fail
  refine (booted_any a n c 20 zs w hn (by omega) (by omega) hr hwf).mono ?_
  rintro e w1 ⟨a1, a2, n1, n2, c1, c2, f, g, rfl, hown, hlf, hlg, hb1⟩
  obtain ⟨K3, K4, F3, F4, hsz, hbw⟩ := boxes2 w1 #[.slice a1 n1 c1, .slice a2 n2 c2] 42 (arr (fun _ => false) (fun _ => false)) 44
  have hst := store_box (P := Try.prog) K4 F4 (show _ = (arr f g).size by rw [arr_size, arr_size]) (arr_one f g)
  have K3' := box_setCells_other K3 (c := w1.heap.size + 1) (by omega) (arr f g).toList
  have K4' := box_setCells K4 (show _ = (arr f g).size by rw [arr_size, arr_size])
  have hb2' := Below.step hb1 hbw
  have hsz1 := hb1.size
  have hb2 := Below.setCells (w1.heap.size + 1) (by omega) (arr f g).toList 0 hb2'
  have hown2 := (hown.below hbw).setCells (hown.ne (.inr (show w1.heap.size ≤ w1.heap.size + 1 by omega))) (arr f g).toList 0
  have hsz2 : w1.heap.size + 1 < _ := Nat.lt_of_lt_of_le hsz (Nat.le_of_eq (size_setCells (w1.heap.size + 1) (arr f g).toList 0 _).symm)
  have hss := arr_size f g
  have hAA := Hid.mk K4'
  clear K3 K4 F3 F4 hsz hbw hb2' hown K4'
  generalize hEq : arr f g = A at *
  have HEq := Hid.mk hEq
  clear hEq
  generalize arr (fun _ => false) (fun _ => false) = Z at *
  generalize 512 = N at *
  go_wp2_with fail
  have K4a := hAA.out
  generalize (((w1.alloc (.cells #[.slice a1 n1 c1, .slice a2 n2 c2] 42)).alloc (.cells Z 44)).setCells (w1.heap.size + 1) 0 A.toList) = w2 at *
  clear hst hAA

  refine (picked_any _ _ _ (by omega) (by omega) (by omega) (by omega)).mono ?_
  rintro e w' ⟨rfl, rfl⟩
  obtain ⟨N0, hN0'⟩ := Int.eq_ofNat_of_zero_le (show 0 ≤ 1 + pk x 20 by omega)
  have hN0 : 1 + pk x 20 = (N0 : Int) := hN0'
  clear hN0'
  have hM := btOf_m (f := f) (g := g) (by omega)
  have hR := btOf_r (f := f) (g := g) (by omega)
  have hck : ∀ r ∈ freeOf (btOf f g), ckRg r = true := regionsOf_ck _
  have hat2 := hown2.at
  clear hown2 K4a
  go_wp2_with fail
  refine (picked_any _ _ _ (by omega) (by omega) (by omega) (by omega)).mono ?_
  rintro e w' ⟨rfl, rfl⟩
  obtain ⟨k, hk, hk1, hk2⟩ := shl_is (pk y 5) y1 y2
  obtain ⟨K12, K13, _, _, hszb, hbwb⟩ := boxes2 w2 #[.int .i64 (N0 : Int)] 3 #[.int .i64 k] 3
  have HI := Hid.mk (show AInv w ((w2.alloc (.cells #[.int .i64 (N0 : Int)] 3)).alloc (.cells #[.int .i64 k] 3)) w1.heap.size w2.heap.size a1 a2 n1 n2 c1 c2 N0 k (btOf f g) from ⟨box_step K3' (by omega) hbwb, K12 0, K13 0, hat2.below hbwb, by have := hbwb.size; omega, hszb, Below.step hb2 hbwb⟩)
  have k9 := HI.out.k9
  clear K12 K13 hat2 K3' hbwb
  by_cases hfit : ∃ r ∈ freeOf (btOf f g), fitR 0 256 N0 k r = true
  · obtain ⟨p, hp1, hp2, hp3, hp4⟩ := place (b := btOf f g) (n' := N0) (k := k) (down := down) (by omega) (by omega) (by omega) (by omega) hfit
    obtain ⟨L1, L2⟩ := change_len (f := f) (g := g) (p := p) (n' := N0) (v := true) (m := 20) (by omega) hlf hlg
    have hall : Calls Try.prog 26 #[.agg #[.slice a1 n1 c1, .slice a2 n2 c2], .int .i64 (N0 : Int), .int .i64 k, .int .i64 0, .int .i64 256, .bool down] ((w2.alloc (.cells #[.int .i64 (N0 : Int)] 3)).alloc (.cells #[.int .i64 k] 3)) fun e w' => ∃ a1' n1' c1' a2' n2' c2', e = .returned (.tuple #[.agg #[.slice a1' n1' c1', .slice a2' n2' c2'], .int .i64 p, .int .i64 0]) ∧ BtOwn w' ((w2.alloc (.cells #[.int .i64 (N0 : Int)] 3)).alloc (.cells #[.int .i64 k] 3)).heap.size a1' a2' n1' n2' c1' c2' ((btOf f g).change p N0 true true) ∧ Below ((w2.alloc (.cells #[.int .i64 (N0 : Int)] 3)).alloc (.cells #[.int .i64 k] 3)).heap.size ((w2.alloc (.cells #[.int .i64 (N0 : Int)] 3)).alloc (.cells #[.int .i64 k] 3)) w' := by
      cases down with
      | true => exact alloc_down _ _ _ _ _ _ (btOf f g) N0 p k 0 256 _ HI.out.at9 hM hR (by omega) (by omega) (by omega) (by omega) (by omega) (by omega) (by omega) (by omega) (by omega) (by omega) (by rw [if_pos rfl] at hp1; exact hp1)
      | false => exact alloc_up _ _ _ _ _ _ (btOf f g) N0 p k 0 256 _ HI.out.at9 hM hR (by omega) (by omega) (by omega) (by omega) (by omega) (by omega) (by omega) (by omega) (by omega) (by omega) (by rw [if_neg (by simp)] at hp1; exact hp1)
    have hfree1 := Hid.mk (back_same hp2 hp4)
    have hfree2 := Hid.mk (was_inside hp4)
    have hfree3 := Hid.mk (not_still (f := f) (g := g) hp2 (show 1 ≤ N0 by omega))
    have hch1 : (btOf f g).change p N0 true true = btOf f (upd g p (p + N0) true) := btOf_change _ _ _ _ _ _
    have hch2 : (btOf f (upd g p (p + N0) true)).change p N0 true false = btOf f (upd (upd g p (p + N0) true) p (p + N0) false) := btOf_change _ _ _ _ _ _
    rw [hch1] at L1 L2 hall
    obtain ⟨L3, L4⟩ := change_len (f := f) (g := upd g p (p + N0) true) (p := p) (n' := N0) (v := false) (m := 21) (by omega) L1 L2
    rw [hch2] at L3 L4
    have hHch2 := Hid.mk hch2
    clear hp1 hp4 hch1 hch2 hfit
    generalize upd g p (p + N0) true = g1 at *
    generalize upd g1 p (p + N0) false = g2 at *
    go_wp2_with fail
    refine hall.mono ?_
    clear hall
    rintro e w4 ⟨a3, n3, c3, a4, n4, c4, rfl, hown4, hb4⟩
    have I4 := HI.out.below hb4
    have hat4 := hown4.at
    clear HI k9 hown4 hb4
    obtain ⟨K14, K15, _, _, hsz5, hbw5⟩ := boxes2 w4 #[.slice a3 n3 c3, .slice a4 n4 c4] 42 #[.int .i64 (p : Int)] 3
    have I5 := Hid.mk (I4.below hbw5)
    have X5 := Hid.mk (show XInv ((w4.alloc (.cells #[.slice a3 n3 c3, .slice a4 n4 c4] 42)).alloc (.cells #[.int .i64 (p : Int)] 3)) w4.heap.size a3 a4 n3 n4 c3 c4 p (btOf f g1) from ⟨K14, K15 0, hat4.below hbw5, hsz5⟩)
    have k9 := I5.out.k9
    clear I4 hat4 K14 K15 hbw5
    go_wp2_with fail
    generalize (w4.alloc (.cells #[.slice a3 n3 c3, .slice a4 n4 c4] 42)).alloc (.cells #[.int .i64 (p : Int)] 3) = w5 at *
    generalize w4.heap.size = B14 at *
    refine (ranges_ok _ _ _ _ _ _ (btOf f g) _ I5.out.at9 hM hR).mono ?_
    rintro e w6 ⟨a5, c5, rfl, hown6, hb6⟩
    have I6 := Hid.mk (I5.out.below hb6)
    have X6 := Hid.mk (X5.out.below hb6)
    have was6 := Hid.mk (own_row hown6)
    have lw : (freeOf (btOf f g)).length ≤ 256 := regTo_len _ 256
    have k14 := X6.out.k14
    have k15 := X6.out.k15
    have k12 := I6.out.k12
    clear I5 X5 k9 hown6 hb6
    go_wp2_with fail
    refine (bootFree_ok _ _ _ _ _ _ (btOf f g1) p N0 _ X6.out.atx (btOf_m (f := f) (g := g1) (by have : (regionsOf f).length ≤ 21 := L1; omega)) (btOf_r (f := f) (g := g1) (by have : (regionsOf g1).length ≤ 21 := L2; omega)) (by omega) (by omega) (by rw [hHch2.out]; omega) (by rw [hHch2.out]; omega)).mono ?_
    rw [hHch2.out]
    rintro e w7 ⟨a6, n6, c6, a7, n7, c7, rfl, hown7, hb7⟩
    have hb7x := below_alloc w7 (.cells #[.slice a6 n6 c6, .slice a7 n7 c7] 42)
    have haty := Hid.mk (hown7.at.below hb7x)
    have K19 := box_new w7 #[.slice a6 n6 c6, .slice a7 n7 c7] 42
    have I7 := Hid.mk ((I6.out.below hb7).below hb7x)
    have X7 := Hid.mk ((X6.out.below hb7).below hb7x)
    have was7 := Hid.mk ((was6.out.below hb7).below hb7x)
    clear I6 X6 was6 hown7 hb7 hb7x k14 k15 k12
    go_wp2_with fail
    generalize w7.alloc (.cells #[.slice a6 n6 c6, .slice a7 n7 c7] 42) = w8 at *
    refine (ranges_ok _ _ _ _ _ _ (btOf f g2) _ haty.out (btOf_m (f := f) (g := g2) (by have : (regionsOf f).length ≤ 21 := L1; omega)) (btOf_r (f := f) (g := g2) (by have : (regionsOf g2).length ≤ 22 := L4; omega))).mono ?_
    rw [hfree1.out]
    rintro e w9 ⟨a8, c8, rfl, hown9, hb9⟩
    have I9 := Hid.mk (I7.out.below hb9)
    have X9 := Hid.mk (X7.out.below hb9)
    have was9 := Hid.mk (was7.out.below hb9)
    have now9 := Hid.mk (own_row hown9)
    have k14 := X9.out.k14
    clear I7 X7 was7 haty K19 hown9 hb9
    go_wp2_with fail
    refine (ranges_ok _ _ _ _ _ _ (btOf f g1) _ X9.out.atx (btOf_m (f := f) (g := g1) (by have : (regionsOf f).length ≤ 21 := L1; omega)) (btOf_r (f := f) (g := g1) (by have : (regionsOf g1).length ≤ 21 := L2; omega))).mono ?_
    rintro e w10 ⟨a9, c9, rfl, hown10, hb10⟩
    have I10 := Hid.mk (I9.out.below hb10)
    have X10 := Hid.mk (X9.out.below hb10)
    have was10 := Hid.mk (was9.out.below hb10)
    have now10 := Hid.mk (now9.out.below hb10)
    have less10 := Hid.mk (own_row hown10)
    have ll : (freeOf (btOf f g1)).length ≤ 256 := regTo_len _ 256
    clear I9 X9 was9 now9 k14 hown10 hb10
    have eg2 : ∀ args w, (callFunc 29 args).run Try.prog w = .ok (.enter 29 args) w := enters_of Try.func29 (by kernel_rfl) rfl
    have eg3 : ∀ args w, (callFunc 30 args).run Try.prog w = .ok (.enter 30 args) w := enters_of Try.func30 (by kernel_rfl) rfl
    have hsmw : ∀ r ∈ freeOf (btOf f g), r.small := rg_small
    have hsml : ∀ r ∈ freeOf (btOf f g1), r.small := rg_small
    go_wp2_with fail
    refine (containsFuncRg _ _ _ (freeOf (btOf f g)) _ _ (fun r => decide (r.f ≤ (p : Int) ∧ (p : Int) + (N0 : Int) ≤ r.f + r.s)) _ rfl (by omega) was10.out eg2 (fun W hW r hr => inside_any r p N0 _ _ W (hsmw r hr) (by omega) (by omega) (by omega) (by omega) (X10.out.below hW |>.s14) (X10.out.below hW |>.k15) (by have := (I10.out.below hW).s12; omega) (I10.out.below hW |>.k12))).mono ?_
    rw [hfree2.out]
    rintro e w11 ⟨rfl, hb11⟩
    go_wp2_with fail
    refine (containsFuncRg _ _ _ (freeOf (btOf f g1)) _ _ (fun r => decide (r.f < (p : Int) + (N0 : Int) ∧ (p : Int) < r.f + r.s)) _ rfl (by omega) (less10.out.below hb11) eg3 (fun W hW r hr => meets_any r p N0 _ _ W (hsml r hr) (by omega) (by omega) (by omega) (by omega) (((X10.out.below hb11).below hW) |>.s14) (((X10.out.below hb11).below hW) |>.k15) (by have := ((I10.out.below hb11).below hW).s12; omega) (((I10.out.below hb11).below hW) |>.k12))).mono ?_
    rw [hfree3.out]
    rintro e w12 ⟨rfl, hb12⟩
    have I12 := Hid.mk ((I10.out.below hb11).below hb12)
    have X12 := Hid.mk ((X10.out.below hb11).below hb12)
    have was12 := Hid.mk ((was10.out.below hb11).below hb12)
    have now12 := Hid.mk ((now10.out.below hb11).below hb12)
    have k15 := X12.out.k15
    have k13 := I12.out.k13
    clear I10 X10 was10 now10 less10 eg2 eg3 hsmw hsml hb11 hb12
    go_wp2_with fail
    refine (equalRg _ _ _ _ _ _ (freeOf (btOf f g)) (freeOf (btOf f g)) _ rfl rfl (by omega) (by omega) was12.out now12.out).mono ?_
    rw [decide_eq_true (show freeOf (btOf f g) = freeOf (btOf f g) from rfl)]
    rintro e w13 ⟨rfl, hb13⟩
    have I13 := (I12.out.below hb13).bw
    go_wp2
    go_ret
    exact ⟨rfl, I13⟩
  · have hno := no_fit hfit
    have hroom := Hid.mk (room_none hno)
    go_wp2_with fail
    refine (alloc_none _ _ _ _ _ _ (btOf f g) N0 k 0 256 down _ HI.out.at9 hM hR (by omega) (by omega) (by omega) (by omega) (by omega) (by omega) (by omega) hno).mono ?_
    rintro e w4 ⟨rfl, hb4⟩
    have I4 := HI.out.below hb4
    clear HI k9 hb4 hno hfit
    obtain ⟨_, _, _, _, hsz5, hbw5⟩ := boxes2 w4 #[.slice none 0 0, .slice none 0 0] 42 #[.int .i64 (0 : Int)] 3
    have I5 := Hid.mk (I4.below hbw5)
    have k9 := I5.out.k9
    clear I4 hbw5
    go_wp2_with fail
    generalize (w4.alloc (.cells #[.slice none 0 0, .slice none 0 0] 42)).alloc (.cells #[.int .i64 (0 : Int)] 3) = w5 at *
    refine (ranges_ok _ _ _ _ _ _ (btOf f g) _ I5.out.at9 hM hR).mono ?_
    rintro e w6 ⟨a5, c5, rfl, hown6, hb6⟩
    have I6 := Hid.mk (I5.out.below hb6)
    have was6 := Hid.mk (own_row hown6)
    have lw : (freeOf (btOf f g)).length ≤ 256 := regTo_len _ 256
    clear I5 k9 hown6 hb6
    have eg1 : ∀ args w, (callFunc 27 args).run Try.prog w = .ok (.enter 27 args) w := enters_of Try.func27 (by kernel_rfl) rfl
    have hq : ∀ r ∈ freeOf (btOf f g), 0 ≤ (r.f + k - 1) / k * k ∧ (r.f + k - 1) / k * k ≤ 1000 := fun r hr => by
      have := ck_parts (hck r hr)
      have := divmul (r.f + k - 1) k (by omega) hk1
      omega
    go_wp2_with fail
    refine (containsFuncRg _ _ _ (freeOf (btOf f g)) _ _ (fun r => decide ((r.f + k - 1) / k * k + (N0 : Int) ≤ r.f + r.s)) _ rfl (by omega) was6.out eg1 (fun W hW r hr => room_any r k N0 _ _ W (hck r hr) (by omega) (by omega) (by omega) (by omega) (hq r hr).1 (hq r hr).2 (I6.out.below hW |>.s12) (I6.out.below hW |>.k13) (by have := (I6.out.below hW).s12; omega) (I6.out.below hW |>.k12))).mono ?_
    rw [hroom.out]
    rintro e w7 ⟨rfl, hb7⟩
    have I7 := (I6.out.below hb7).bw
    go_wp2
    go_ret
    exact ⟨rfl, I7⟩
end Go.Proofs.Yteonmoncofcajaa
