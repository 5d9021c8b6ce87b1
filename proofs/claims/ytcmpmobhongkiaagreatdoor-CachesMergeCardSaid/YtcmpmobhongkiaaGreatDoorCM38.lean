/- texts of this claim, joined. -/
import Derived.Test.YtcmpmobhongkiaaGreatDoorCM0
import Derived.Test.YtcmpmobhongkiaaGreatDoorCM10
import Derived.Test.YtcmpmobhongkiaaGreatDoorCM17
import Derived.Test.YtcmpmobhongkiaaGreatDoorCM36
import Derived.Test.YtcmpmobhongkiaaGreatDoorCM37
set_option linter.unusedVariables false
set_option linter.unusedSimpArgs false
namespace Go.Proofs.YtcmpmobhongkiaaGreatDoor
section
open Go.RowKit
set_option maxRecDepth 100000 in
theorem small1 (w : World) : Calls Tryz.prog 187 #[.int .i64 1] w fun ev w' => ev = .returned (.string ⟨#[49]⟩) ∧ w = w' := by
 go_enter Tryz.func187, Tryz.ntmps187
 go_wp2
 go_ret
 exact ⟨rfl, rfl⟩
set_option maxRecDepth 100000 in
theorem form1 (w : World) : Calls Tryz.prog 174 #[.int .i64 1, .int .i64 10] w fun ev w' => ev = .returned (.string ⟨#[49]⟩) ∧ w = w' := by
 go_enter Tryz.func174, Tryz.ntmps174
 go_wp2_with (go_at_call 187; refine (small1 _).mono ?_; rintro ev w' ⟨rfl, rfl⟩)
 go_ret
 exact ⟨rfl, rfl⟩
set_option maxRecDepth 100000 in
theorem itoaI1 (w : World) : Calls Tryz.prog 150 #[.int .i64 1] w fun ev w' => ev = .returned (.string ⟨#[49]⟩) ∧ w = w' := by
 go_enter Tryz.func150, Tryz.ntmps150
 go_wp2_with (go_at_call 174; refine (form1 _).mono ?_; rintro ev w' ⟨rfl, rfl⟩)
 go_ret
 exact ⟨rfl, rfl⟩
set_option maxRecDepth 100000 in
theorem itoa1 (w : World) : Calls Tryz.prog 105 #[.int .i64 1] w fun ev w' => ev = .returned (.string ⟨#[49]⟩) ∧ w = w' := by
 go_enter Tryz.func105, Tryz.ntmps105
 go_wp2_with (go_at_call 150; refine (itoaI1 _).mono ?_; rintro ev w' ⟨rfl, rfl⟩)
 go_ret
 exact ⟨rfl, rfl⟩
set_option maxRecDepth 100000 in
theorem kname1 (w : World) : Calls Tryz.prog 59 #[.int .i64 1] w fun ev w' => ev = .returned (.string ⟨#[107, 49]⟩) ∧ w = w' := by
 go_enter Tryz.func59, Tryz.ntmps59
 go_wp2_with (go_at_call 105; refine (itoa1 _).mono ?_; rintro ev w' ⟨rfl, rfl⟩)
 go_ret
 exact ⟨rfl, rfl⟩
set_option maxRecDepth 100000 in
theorem small2 (w : World) : Calls Tryz.prog 187 #[.int .i64 2] w fun ev w' => ev = .returned (.string ⟨#[50]⟩) ∧ w = w' := by
 go_enter Tryz.func187, Tryz.ntmps187
 go_wp2
 go_ret
 exact ⟨rfl, rfl⟩
set_option maxRecDepth 100000 in
theorem form2 (w : World) : Calls Tryz.prog 174 #[.int .i64 2, .int .i64 10] w fun ev w' => ev = .returned (.string ⟨#[50]⟩) ∧ w = w' := by
 go_enter Tryz.func174, Tryz.ntmps174
 go_wp2_with (go_at_call 187; refine (small2 _).mono ?_; rintro ev w' ⟨rfl, rfl⟩)
 go_ret
 exact ⟨rfl, rfl⟩
set_option maxRecDepth 100000 in
theorem itoaI2 (w : World) : Calls Tryz.prog 150 #[.int .i64 2] w fun ev w' => ev = .returned (.string ⟨#[50]⟩) ∧ w = w' := by
 go_enter Tryz.func150, Tryz.ntmps150
 go_wp2_with (go_at_call 174; refine (form2 _).mono ?_; rintro ev w' ⟨rfl, rfl⟩)
 go_ret
 exact ⟨rfl, rfl⟩
set_option maxRecDepth 100000 in
theorem itoa2 (w : World) : Calls Tryz.prog 105 #[.int .i64 2] w fun ev w' => ev = .returned (.string ⟨#[50]⟩) ∧ w = w' := by
 go_enter Tryz.func105, Tryz.ntmps105
 go_wp2_with (go_at_call 150; refine (itoaI2 _).mono ?_; rintro ev w' ⟨rfl, rfl⟩)
 go_ret
 exact ⟨rfl, rfl⟩
set_option maxRecDepth 100000 in
theorem kname2 (w : World) : Calls Tryz.prog 59 #[.int .i64 2] w fun ev w' => ev = .returned (.string ⟨#[107, 50]⟩) ∧ w = w' := by
 go_enter Tryz.func59, Tryz.ntmps59
 go_wp2_with (go_at_call 105; refine (itoa2 _).mono ?_; rintro ev w' ⟨rfl, rfl⟩)
 go_ret
 exact ⟨rfl, rfl⟩
set_option maxRecDepth 100000 in
theorem small4 (w : World) : Calls Tryz.prog 187 #[.int .i64 4] w fun ev w' => ev = .returned (.string ⟨#[52]⟩) ∧ w = w' := by
 go_enter Tryz.func187, Tryz.ntmps187
 go_wp2
 go_ret
 exact ⟨rfl, rfl⟩
set_option maxRecDepth 100000 in
theorem form4 (w : World) : Calls Tryz.prog 174 #[.int .i64 4, .int .i64 10] w fun ev w' => ev = .returned (.string ⟨#[52]⟩) ∧ w = w' := by
 go_enter Tryz.func174, Tryz.ntmps174
 go_wp2_with (go_at_call 187; refine (small4 _).mono ?_; rintro ev w' ⟨rfl, rfl⟩)
 go_ret
 exact ⟨rfl, rfl⟩
set_option maxRecDepth 100000 in
theorem itoaI4 (w : World) : Calls Tryz.prog 150 #[.int .i64 4] w fun ev w' => ev = .returned (.string ⟨#[52]⟩) ∧ w = w' := by
 go_enter Tryz.func150, Tryz.ntmps150
 go_wp2_with (go_at_call 174; refine (form4 _).mono ?_; rintro ev w' ⟨rfl, rfl⟩)
 go_ret
 exact ⟨rfl, rfl⟩
set_option maxRecDepth 100000 in
theorem itoa4 (w : World) : Calls Tryz.prog 105 #[.int .i64 4] w fun ev w' => ev = .returned (.string ⟨#[52]⟩) ∧ w = w' := by
 go_enter Tryz.func105, Tryz.ntmps105
 go_wp2_with (go_at_call 150; refine (itoaI4 _).mono ?_; rintro ev w' ⟨rfl, rfl⟩)
 go_ret
 exact ⟨rfl, rfl⟩
set_option maxRecDepth 100000 in
theorem kname4 (w : World) : Calls Tryz.prog 59 #[.int .i64 4] w fun ev w' => ev = .returned (.string ⟨#[107, 52]⟩) ∧ w = w' := by
 go_enter Tryz.func59, Tryz.ntmps59
 go_wp2_with (go_at_call 105; refine (itoa4 _).mono ?_; rintro ev w' ⟨rfl, rfl⟩)
 go_ret
 exact ⟨rfl, rfl⟩
set_option maxRecDepth 100000 in
theorem small8 (w : World) : Calls Tryz.prog 187 #[.int .i64 8] w fun ev w' => ev = .returned (.string ⟨#[56]⟩) ∧ w = w' := by
 go_enter Tryz.func187, Tryz.ntmps187
 go_wp2
 go_ret
 exact ⟨rfl, rfl⟩
set_option maxRecDepth 100000 in
theorem form8 (w : World) : Calls Tryz.prog 174 #[.int .i64 8, .int .i64 10] w fun ev w' => ev = .returned (.string ⟨#[56]⟩) ∧ w = w' := by
 go_enter Tryz.func174, Tryz.ntmps174
 go_wp2_with (go_at_call 187; refine (small8 _).mono ?_; rintro ev w' ⟨rfl, rfl⟩)
 go_ret
 exact ⟨rfl, rfl⟩
set_option maxRecDepth 100000 in
theorem itoaI8 (w : World) : Calls Tryz.prog 150 #[.int .i64 8] w fun ev w' => ev = .returned (.string ⟨#[56]⟩) ∧ w = w' := by
 go_enter Tryz.func150, Tryz.ntmps150
 go_wp2_with (go_at_call 174; refine (form8 _).mono ?_; rintro ev w' ⟨rfl, rfl⟩)
 go_ret
 exact ⟨rfl, rfl⟩
set_option maxRecDepth 100000 in
theorem itoa8 (w : World) : Calls Tryz.prog 105 #[.int .i64 8] w fun ev w' => ev = .returned (.string ⟨#[56]⟩) ∧ w = w' := by
 go_enter Tryz.func105, Tryz.ntmps105
 go_wp2_with (go_at_call 150; refine (itoaI8 _).mono ?_; rintro ev w' ⟨rfl, rfl⟩)
 go_ret
 exact ⟨rfl, rfl⟩
set_option maxRecDepth 100000 in
theorem kname8 (w : World) : Calls Tryz.prog 59 #[.int .i64 8] w fun ev w' => ev = .returned (.string ⟨#[107, 56]⟩) ∧ w = w' := by
 go_enter Tryz.func59, Tryz.ntmps59
 go_wp2_with (go_at_call 105; refine (itoa8 _).mono ?_; rintro ev w' ⟨rfl, rfl⟩)
 go_ret
 exact ⟨rfl, rfl⟩
set_option maxRecDepth 100000 in
theorem small16 (w : World) : Calls Tryz.prog 187 #[.int .i64 16] w fun ev w' => ev = .returned (.string ⟨#[49, 54]⟩) ∧ w = w' := by
 go_enter Tryz.func187, Tryz.ntmps187
 go_wp2
 go_ret
 exact ⟨rfl, rfl⟩
set_option maxRecDepth 100000 in
theorem form16 (w : World) : Calls Tryz.prog 174 #[.int .i64 16, .int .i64 10] w fun ev w' => ev = .returned (.string ⟨#[49, 54]⟩) ∧ w = w' := by
 go_enter Tryz.func174, Tryz.ntmps174
 go_wp2_with (go_at_call 187; refine (small16 _).mono ?_; rintro ev w' ⟨rfl, rfl⟩)
 go_ret
 exact ⟨rfl, rfl⟩
set_option maxRecDepth 100000 in
theorem itoaI16 (w : World) : Calls Tryz.prog 150 #[.int .i64 16] w fun ev w' => ev = .returned (.string ⟨#[49, 54]⟩) ∧ w = w' := by
 go_enter Tryz.func150, Tryz.ntmps150
 go_wp2_with (go_at_call 174; refine (form16 _).mono ?_; rintro ev w' ⟨rfl, rfl⟩)
 go_ret
 exact ⟨rfl, rfl⟩
set_option maxRecDepth 100000 in
theorem itoa16 (w : World) : Calls Tryz.prog 105 #[.int .i64 16] w fun ev w' => ev = .returned (.string ⟨#[49, 54]⟩) ∧ w = w' := by
 go_enter Tryz.func105, Tryz.ntmps105
 go_wp2_with (go_at_call 150; refine (itoaI16 _).mono ?_; rintro ev w' ⟨rfl, rfl⟩)
 go_ret
 exact ⟨rfl, rfl⟩
set_option maxRecDepth 100000 in
theorem kname16 (w : World) : Calls Tryz.prog 59 #[.int .i64 16] w fun ev w' => ev = .returned (.string ⟨#[107, 49, 54]⟩) ∧ w = w' := by
 go_enter Tryz.func59, Tryz.ntmps59
 go_wp2_with (go_at_call 105; refine (itoa16 _).mono ?_; rintro ev w' ⟨rfl, rfl⟩)
 go_ret
 exact ⟨rfl, rfl⟩
set_option maxRecDepth 100000 in
theorem small32 (w : World) : Calls Tryz.prog 187 #[.int .i64 32] w fun ev w' => ev = .returned (.string ⟨#[51, 50]⟩) ∧ w = w' := by
 go_enter Tryz.func187, Tryz.ntmps187
 go_wp2
 go_ret
 exact ⟨rfl, rfl⟩
set_option maxRecDepth 100000 in
theorem form32 (w : World) : Calls Tryz.prog 174 #[.int .i64 32, .int .i64 10] w fun ev w' => ev = .returned (.string ⟨#[51, 50]⟩) ∧ w = w' := by
 go_enter Tryz.func174, Tryz.ntmps174
 go_wp2_with (go_at_call 187; refine (small32 _).mono ?_; rintro ev w' ⟨rfl, rfl⟩)
 go_ret
 exact ⟨rfl, rfl⟩
set_option maxRecDepth 100000 in
theorem itoaI32 (w : World) : Calls Tryz.prog 150 #[.int .i64 32] w fun ev w' => ev = .returned (.string ⟨#[51, 50]⟩) ∧ w = w' := by
 go_enter Tryz.func150, Tryz.ntmps150
 go_wp2_with (go_at_call 174; refine (form32 _).mono ?_; rintro ev w' ⟨rfl, rfl⟩)
 go_ret
 exact ⟨rfl, rfl⟩
set_option maxRecDepth 100000 in
theorem itoa32 (w : World) : Calls Tryz.prog 105 #[.int .i64 32] w fun ev w' => ev = .returned (.string ⟨#[51, 50]⟩) ∧ w = w' := by
 go_enter Tryz.func105, Tryz.ntmps105
 go_wp2_with (go_at_call 150; refine (itoaI32 _).mono ?_; rintro ev w' ⟨rfl, rfl⟩)
 go_ret
 exact ⟨rfl, rfl⟩
set_option maxRecDepth 100000 in
theorem kname32 (w : World) : Calls Tryz.prog 59 #[.int .i64 32] w fun ev w' => ev = .returned (.string ⟨#[107, 51, 50]⟩) ∧ w = w' := by
 go_enter Tryz.func59, Tryz.ntmps59
 go_wp2_with (go_at_call 105; refine (itoa32 _).mono ?_; rintro ev w' ⟨rfl, rfl⟩)
 go_ret
 exact ⟨rfl, rfl⟩
end
section
open Go.RowKit

theorem Ux (k : Nat) : List.replicate k (Value.int .i64 0) = (List.replicate k (0 : Int)).map vI := by
 rw [List.map_replicate]
 rfl
set_option maxRecDepth 100000 in
theorem Og (w : World) : Calls Tryz.prog 58 #[.int .i64 256] w fun ev w' => ∃ (a' : Option Addr) (c' : Nat), ev = .returned (.tuple #[.slice a' 4096 c', .int .i64 0]) ∧ w'.ownsRow w.heap.size 3 1 (.slice a' 4096 c') 4096 ((List.replicate 4096 (0 : Int)).map vI) ∧ Below w.heap.size w w' := by
 obtain ⟨i0, hi, hz, hsize, hby⟩ := info_parts l7
 go_enter Tryz.func58, Tryz.ntmps58
 go_wp2_with (at_make; refine wpList_make_full _ rfl _ _ 39 rfl w.heap.size 3 i0 (.int .i64 0) 1 Tryz.underlying39 hi hz hsize .i64 .i64 _ _ 4096 rfl rfl rfl rfl ?q1 ?q2 ?q3 ?_)
 case q1 => rw [hby]; decide
 case q2 => unfold maxLen; omega
 case q3 => exact Nat.le_refl _
 intro w1 hown hgrow
 rw [toList_madeCells_one, Ux] at hown
 have HO := gO hown
 have hbw := (Below.refl w.heap.size w).grown hgrow (Nat.le_refl _) (by simp)
 have HB := gO hbw
 clear hown hbw hgrow
 go_wp2
 exact bodyPost_ret (v := .tuple #[.slice (some ⟨w.heap.size, 0, none⟩) 4096 4096, .int .i64 0]) (by simp [results, Tryz.results58, go_sem]) rfl ⟨_, _, rfl, HO.out, HB.out⟩

structure VG (w : World) : Prop where
 sz : 0 < w.heap.size
 c : ∀ i v, (#[.int .i64 1, .int .i64 2, .int .i64 4, .int .i64 8, .int .i64 16, .int .i64 32] : Array Value)[i]? = some v → w.cell? ⟨0, i, none⟩ = some v
theorem VG.below {w w' : World} (h : VG w) (hb : Below w.heap.size w w') : VG w' :=
 ⟨gI h.sz hb.size, fun i v hv => (hb.cell (p := ⟨0, i, none⟩) h.sz).trans (h.c i v hv)⟩
theorem XC {j : Nat} (hj : j < 6) (w : World) : Calls Tryz.prog 59 #[.int .i64 (([1, 2, 4, 8, 16, 32].getD j 0 : Nat) : Int)] w fun ev w' => ev = .returned (.string ⟨(kN ([1, 2, 4, 8, 16, 32].getD j 0)).toArray⟩) ∧ w = w' := by
 obtain rfl | rfl | rfl | rfl | rfl | rfl : j = 0 ∨ j = 1 ∨ j = 2 ∨ j = 3 ∨ j = 4 ∨ j = 5 := by omega
 ·exact kname1 w
 ·exact kname2 w
 ·exact kname4 w
 ·exact kname8 w
 ·exact kname16 w
 ·exact kname32 w
theorem xG {h : Hp} (hk : dW h) : ∀ j, j ≤ 6 → fC (dY h j)
 | 0, _ => GR hk
 | j + 1, hj => by
  obtain ⟨h1, h2, h3⟩ := tX h (j := j) (by omega)
  have hz : 1 ≤ [1, 2, 4, 8, 16, 32].getD j 0 ∧ [1, 2, 4, 8, 16, 32].getD j 0 ≤ 64 := by
   obtain rfl | rfl | rfl | rfl | rfl | rfl : j = 0 ∨ j = 1 ∨ j = 2 ∨ j = 3 ∨ j = 4 ∨ j = 5 := by omega
   all_goals decide
  exact ((xG hk j (by omega)).create h3 hz h1 h2).1
theorem yD (h : Hp) (j : Nat) : ∀ c ∈ (dY h j).cs, c.ns.length ≤ 999 := fun c hc => by
 unfold dY at hc
 obtain ⟨k, _, rfl⟩ := List.mem_map.1 hc
 show [kN k].length ≤ 999
 simp

theorem aAP {j : Nat} (hj : j < 6) (w : World) : (Instr.index 117 (.agg #[.int .i64 1, .int .i64 2, .int .i64 4, .int .i64 8, .int .i64 16, .int .i64 32]) (.int .i64 (j : Int))).run Tryz.prog w = .ok (.int .i64 (([1, 2, 4, 8, 16, 32].getD j 0 : Nat) : Int)) w := by
 obtain rfl | rfl | rfl | rfl | rfl | rfl : j = 0 ∨ j = 1 ∨ j = 2 ∨ j = 3 ∨ j = 4 ∨ j = 5 := by omega
 all_goals kernel_rfl
def Rj (h : Hp) (w : World) (ev : Ending) (w' : World) : Prop := ∃ v', ev = .returned (.tuple #[.agg (v'.vals (dY h 6)), .int .i64 0]) ∧ kH w' w.heap.size (dY h 6) v' ∧ Below w.heap.size w w'
set_option maxHeartbeats 8000000 in
set_option maxRecDepth 100000 in
theorem Uy (m1 m2 : Option Addr) (n1 n2 d1 d2 : Nat) (b : Bt) (split least aF : Nat) (w : World) (hbt : Ez w m1 m2 n1 n2 b) (hm : dB b.m = true) (hrr : dB b.r = true) (hfr : dB (iJ b) = true) (h1 : split ≤ 256) (h2 : split % 16 = 0) (h3 : least ≤ 256) (h4 : 1 ≤ aF ∧ aF ≤ 4) (hsz : VG w) :
  Calls Tryz.prog 27 #[.agg #[.slice m1 n1 d1, .slice m2 n2 d2, .int .i64 (split : Int), .int .i64 (least : Int), .int .i64 (aF : Int)]] w (Rj (newH (iJ b) split least aF) w) := by
 obtain ⟨K1, K2, F1, F2, hsb, hbw⟩ := boxes2 w #[.slice m1 n1 d1, .slice m2 n2 d2, .int .i64 (split : Int), .int .i64 (least : Int), .int .i64 (aF : Int)] 29 #[.slice none 0 0, .slice none 0 0, .slice none 0 0, .int .i64 0, .slice none 0 0, .slice none 0 0, .slice none 0 0] 47
 have Vq := gO (hbt.below hbw)
 have jK := gO hsz
 have HB1 := gO hbw
 have vZ := gO hfr
 have HM := gO hm
 have HRR := gO hrr
 have HH4 := gO h4
 obtain ⟨hk0, hc0⟩ := LP hfr h1 h2 h3 h4
 have HK0 := gO hk0
 have HK1 := gO K1
 have HK2 := gO K2
 have HF2 := gO F2
 have hsb0 : w.heap.size < ((w.alloc (.cells #[.slice m1 n1 d1, .slice m2 n2 d2, .int .i64 (split : Int), .int .i64 (least : Int), .int .i64 (aF : Int)] 29)).alloc (.cells #[.slice none 0 0, .slice none 0 0, .slice none 0 0, .int .i64 0, .slice none 0 0, .slice none 0 0, .slice none 0 0] 47)).heap.size := by omega
 have k0 := K1 0
 have k1 := K1 1
 simp only [gB, gC, gD] at k0 k1
 clear hbt hsz hbw hfr hm hrr h4 hk0 hc0 K1 K2 F1 F2
 go_enter Tryz.func27, Tryz.ntmps27
 go_upto_region 1 with fail
 generalize (w.alloc (.cells #[.slice m1 n1 d1, .slice m2 n2 d2, .int .i64 (split : Int), .int .i64 (least : Int), .int .i64 (aF : Int)] 29)).alloc (.cells #[.slice none 0 0, .slice none 0 0, .slice none 0 0, .int .i64 0, .slice none 0 0, .slice none 0 0, .slice none 0 0] 47) = w2 at *
 go_upto_region 4 with (go_at_call 56; refine (Oc m1 m2 n1 n2 d1 d2 b w2 Vq.out HM.out HRR.out).mono ?_; rintro ev w3 ⟨aR, cR, rfl, hoR, hb3⟩)
 have Gm := gO (aY hoR)
 have HB3 := gO hb3
 have K13 := aC HK1.out hsb0 hb3
 have k2 := K13 2
 have k3 := K13 3
 have k4 := K13 4
 simp only [gB, gC, gD] at k2 k3 k4
 clear k0 k1 K13 hoR hb3
 go_upto_region 7 with (go_at_call 57; refine (Ut aR (iJ b).length cR (iJ b) split least aF w3 rfl Gm.out vZ.out h1 h2 h3 HH4.out).mono ?_; rintro ev w4 ⟨c', he, hn4, hb4⟩; unfold Hc.vals at he; subst he)
 have HN4 := gO hn4
 have HB4 := gO (Below.step HB3.out hb4)
 clear k2 k3 k4 hn4 hb4
 have bA := aB w4 (.cells #[.slice c'.az 2 c'.cz, .slice c'.am 2 c'.cm, .int .i64 ((newH (iJ b) split least aF).aF : Int), .slice c'.al c'.lc.length c'.cl, .slice c'.av (newH (iJ b) split least aF).live.length c'.cv] 44)
 have K6 := bC w4 #[.slice c'.az 2 c'.cz, .slice c'.am 2 c'.cm, .int .i64 ((newH (iJ b) split least aF).aF : Int), .slice c'.al c'.lc.length c'.cl, .slice c'.av (newH (iJ b) split least aF).live.length c'.cv] 44
 have s46 : w4.heap.size < (w4.alloc (.cells #[.slice c'.az 2 c'.cz, .slice c'.am 2 c'.cm, .int .i64 ((newH (iJ b) split least aF).aF : Int), .slice c'.al c'.lc.length c'.cl, .slice c'.av (newH (iJ b) split least aF).live.length c'.cv] 44)).heap.size := by simp
 have HKH := gO K6
 have HB5 := gO (Below.step HB4.out bA)
 have HN5 := gO (HR.below HN4.out bA)
 have aDA := HB3.out.size
 clear K6 bA
 generalize hh : newH (iJ b) split least aF = h at *
 clear hh
 go_upto_region 8 with (go_at_call 58; refine (Og _).mono ?_; rintro ev w6 ⟨aw, cw, rfl, how, hb6⟩)
 have K66 := aC HKH.out s46 hb6
 obtain ⟨k0, k1, k2, k3, k4⟩ := gA5 K66
 clear K66
 go_upto_region 9 with fail
 have b7 := aB w6 (.cells #[.slice aw 4096 cw, .slice c'.az 2 c'.cz, .slice c'.am 2 c'.cm, .int .i64 (h.aF : Int), .slice c'.al c'.lc.length c'.cl, .slice c'.av h.live.length c'.cv, .slice none 0 0] 47)
 have aDB := hb6.size
 have hs2 := HB1.out.size
 have aDC := HB3.out.size
 have aDD := HB5.out.size
 have s67 : w6.heap.size < (w6.alloc (.cells #[.slice aw 4096 cw, .slice c'.az 2 c'.cz, .slice c'.am 2 c'.cm, .int .i64 (h.aF : Int), .slice c'.al c'.lc.length c'.cl, .slice c'.av h.live.length c'.cv, .slice none 0 0] 47)).heap.size := by simp
 have hblk : ∀ q ∈ c'.rows h ++ c'.reads h, ∀ k, q.v.ownBlock = some k → w3.heap.size ≤ k ∧ k < (w4.alloc (.cells #[.slice c'.az 2 c'.cz, .slice c'.am 2 c'.cm, .int .i64 (h.aF : Int), .slice c'.al c'.lc.length c'.cl, .slice c'.av h.live.length c'.cv] 44)).heap.size := fun q hq k e => by
  refine ⟨?_, HR.lt HN5.out q hq k e⟩
  rcases List.mem_append.1 hq with hq | hq
  ·exact Nat.le_of_not_lt (HN5.out.og q hq k e).2
  ·exact Nat.le_of_not_lt (HN5.out.rx q hq k e)
 have hstart : SR (w6.alloc (.cells #[.slice aw 4096 cw, .slice c'.az 2 c'.cz, .slice c'.am 2 c'.cm, .int .i64 (h.aF : Int), .slice c'.al c'.lc.length c'.cl, .slice c'.av h.live.length c'.cv, .slice none 0 0] 47)) w6.heap.size (fun k => k < w.heap.size + 2) ⟨List.replicate 4096 0, h, []⟩ ⟨aw, 4096, cw, c', none, 0, []⟩ :=
  SR.start (own_base (own_below how b7 (Nat.le_refl _)) (Nat.zero_le _)) ((HR.below (HR.below HN5.out hb6) b7).any s67 (fun q hq k e => by
   have := hblk q hq k e
   omega) (fun k hk => by omega) (by omega)) fun g e => by
   have h9 := how.lt g e
   refine ⟨by omega, by omega, fun q hq e2 => ?_⟩
   have := hblk q hq g e2
   omega
 have HS7 : Hid (SS (w6.alloc (.cells #[.slice aw 4096 cw, .slice c'.az 2 c'.cz, .slice c'.am 2 c'.cm, .int .i64 (h.aF : Int), .slice c'.al c'.lc.length c'.cl, .slice c'.av h.live.length c'.cv, .slice none 0 0] 47)) w6.heap.size (fun k => k < w.heap.size + 2) (dY h 0) ⟨aw, 4096, cw, c', none, 0, []⟩) := ⟨hstart, bC _ _ _, eH _ _ _⟩
 have b27 : Below w2.heap.size w2 (w6.alloc (.cells #[.slice aw 4096 cw, .slice c'.az 2 c'.cz, .slice c'.am 2 c'.cm, .int .i64 (h.aF : Int), .slice c'.al c'.lc.length c'.cl, .slice c'.av h.live.length c'.cv, .slice none 0 0] 47)) := Below.step HB5.out (Below.step hb6 b7)
 have HR7 := gO (aC HK2.out hsb b27)
 have HU7 := gO (aJ HF2.out hsb b27)
 have HB7 := gO (HB1.out.trans (b27.mono hs2))
 have hZ7 := jK.out.below HB7.out
 have z0 := hZ7.c 0 _ rfl
 have z1 := hZ7.c 1 _ rfl
 have z2 := hZ7.c 2 _ rfl
 have z3 := hZ7.c 3 _ rfl
 have z4 := hZ7.c 4 _ rfl
 have z5 := hZ7.c 5 _ rfl
 have aHy : w.heap.size + 1 < w6.heap.size := by omega
 clear b7 b27 hstart hblk how hb6 k0 k1 k2 k3 k4 HKH HN5 HN4 HB4 HB5 HB3 Gm Vq hZ7 HK1 HK2 HF2 HB1 s46 aDA aDB aDC aDD hsb0
 generalize (w6.alloc (.cells #[.slice aw 4096 cw, .slice c'.az 2 c'.cz, .slice c'.am 2 c'.cm, .int .i64 (h.aF : Int), .slice c'.al c'.lc.length c'.cl, .slice c'.av h.live.length c'.cv, .slice none 0 0] 47)) = w7 at *
 generalize w6.heap.size = B9 at *
 go_wp2_with fail
 clear z0 z1 z2 z3 z4 z5
 go_loopw [45] (fun s45 wr => ∃ (j : Nat) (v' : Sc), j ≤ 6 ∧ s45 = .int .i64 (j : Int) ∧ Hid (SS wr B9 (fun k => k < w.heap.size + 2) (dY h j) v') ∧ Hid (∀ o, wr.cell? ⟨w.heap.size + 1, o, none⟩ = (#[.slice none 0 0, .slice none 0 0, .slice none 0 0, .int .i64 0, .slice none 0 0, .slice none 0 0, .slice none 0 0] : Array Value)[o]?) ∧ Hid (∀ o, wr.frozen? ⟨w.heap.size + 1, o, none⟩ = false) ∧ Hid (Below w.heap.size w wr)) (fun s45 _ => 6 - (intOf s45).toNat)
 case atStart => exact ⟨0, _, Nat.zero_le _, rfl, HS7, HR7, HU7, HB7⟩
 case round =>
  obtain ⟨j, v', hj, rfl, sD, HRj, Un, pR⟩ := hrel
  clear HS7 HR7 HU7 HB7
  by_cases hlt : j < 6
  ·have hji : (j : Int) < 6 := by omega
   obtain ⟨z, hz⟩ : ∃ z, [1, 2, 4, 8, 16, 32].getD j 0 = z := ⟨_, rfl⟩
   have HZ := gO hz
   clear hz
   have hidx := aAP hlt wr
   rw [HZ.out] at hidx
   go_upto_region 12 with fail
   obtain ⟨hno, hcr, hnm⟩ := tX h hlt
   rw [HZ.out] at hno hcr hnm
   have aDE : 1 ≤ z ∧ z ≤ 64 := by
    rw [← HZ.out]
    obtain rfl | rfl | rfl | rfl | rfl | rfl : j = 0 ∨ j = 1 ∨ j = 2 ∨ j = 3 ∨ j = 4 ∨ j = 5 := by omega
    all_goals decide
   have hd := (Below.refl wr.heap.size wr).drew
   have Uz := gO (sD.out.below hd)
   have HRd := gO (aC HRj.out (show w.heap.size + 1 < wr.heap.size by have := sD.out.r.hr.xs (w.heap.size + 1) (by show w.heap.size + 1 < w.heap.size + 2; omega); exact this) hd)
   have HUd := gO (aJ Un.out (show w.heap.size + 1 < wr.heap.size by have := sD.out.r.hr.xs (w.heap.size + 1) (by show w.heap.size + 1 < w.heap.size + 2; omega); exact this) hd)
   have HBd := gO (pR.out.trans (hd.mono (show w.heap.size ≤ wr.heap.size from pR.out.size)))
   have hwd : w.heap.size ≤ wr.drew.heap.size := HBd.out.size
   have Ue : Hid (∀ W, Calls Tryz.prog 59 #[.int .i64 (z : Int)] W fun ev w' => ev = .returned (.string ⟨(kN z).toArray⟩) ∧ W = w') := fun W => by
    have h9 := XC hlt W
    rw [HZ.out] at h9
    exact h9
   have HCR : Hid (Calls Tryz.prog 31 #[.agg #[.slice v'.a1 v'.n1 v'.c1, .slice v'.hc.az 2 v'.hc.cz, .slice v'.hc.am 2 v'.hc.cm, .int .i64 (h.aF : Int), .slice v'.hc.al v'.hc.lc.length v'.hc.cl, .slice v'.hc.av h.live.length v'.hc.cv, .slice v'.a2 v'.ys.length v'.c2], .string ⟨(kN z).toArray⟩, .int .i64 z, .int .i64 1] wr.drew fun ev w' => ∃ v'', ev = .returned (.tuple #[.agg #[.slice v''.a1 v''.n1 v''.c1, .slice v''.hc.az 2 v''.hc.cz, .slice v''.hc.am 2 v''.hc.cm, .int .i64 (h.aF : Int), .slice v''.hc.al v''.hc.lc.length v''.hc.cl, .slice v''.hc.av h.live.length v''.hc.cv, .slice v''.a2 v''.ys.length v''.c2], .int .i64 0]) ∧ kH w' wr.drew.heap.size (dY h (j + 1)) v'' ∧ Below wr.drew.heap.size wr.drew w') :=
    tN v' (dY h j) (dY h (j + 1)) (kN z) z wr.drew Uz.out.r.at (xG HK0.out j (by omega)) (yD h j) hnm aDE hno hcr
   have k0 := sD.out.k 0
   have k1 := sD.out.k 1
   have k2 := sD.out.k 2
   have k3 := sD.out.k 3
   have k4 := sD.out.k 4
   have k5 := sD.out.k 5
   have k6 := sD.out.k 6
   unfold Sc.vals dY at k0 k1 k2 k3 k4 k5 k6
   simp only [gB, gC, gD] at k0 k1 k2 k3 k4 k5 k6
   have XD : B9 < wr.drew.heap.size := Uz.out.r.hr.gs
   have Rk := Uz.out.r.hr.xg
   have hB9 : w.heap.size ≤ B9 := Nat.le_of_not_lt fun h9 => Rk (by show B9 < w.heap.size + 2; omega)
   have htd : w.heap.size + 1 < wr.drew.heap.size := Uz.out.r.hr.xs (w.heap.size + 1) (by show w.heap.size + 1 < w.heap.size + 2; omega)
   have JK : w.heap.size + 1 ≠ B9 := fun e => Rk (by show B9 < w.heap.size + 2; omega)
   have KD := gO Uz.out.k
   have FD := gO Uz.out.fz
   clear hd hno hcr hnm hidx Rk sD HRj Un pR
   go_region_law (first | (go_simp; go_at_call 59; refine (Ue.out _).mono ?_; rintro ev wn ⟨rfl, rfl⟩) | (go_simp; go_at_call 31; refine HCR.out.mono ?_; rintro ev w5 ⟨v'', rfl, hnew, hb5⟩; have K5 := aC KD.out XD hb5; have F5 := aJ FD.out XD hb5; have y0 := K5 0; have y1 := K5 1; have y2 := K5 2; have y3 := K5 3; have y4 := K5 4; have y5 := K5 5; have y6 := K5 6; have f0 := F5 0; have f1 := F5 1; have f2 := F5 2; have f3 := F5 3; have f4 := F5 4; have f5 := F5 5; have f6 := F5 6; unfold Sc.vals dY at y0 y1 y2 y3 y4 y5 y6; simp only [gB, gC, gD] at y0 y1 y2 y3 y4 y5 y6; have HK5 := gO K5; have HF5 := gO F5; clear K5 F5))
   all_goals
    have Ai : SR w5 B9 (fun k => k < w.heap.size + 2) (dY h (j + 1)) v'' := SR.lift hnew XD (fun k hk => Uz.out.r.hr.xs k hk) Uz.out.r.hr.xg
    have hfin := SS.put7 Ai (a0 := .slice v'.a1 v'.n1 v'.c1) (a1 := .slice v'.hc.az 2 v'.hc.cz) (a2 := .slice v'.hc.am 2 v'.hc.cm) (a3 := .int .i64 (h.aF : Int)) (a4 := .slice v'.hc.al v'.hc.lc.length v'.hc.cl) (a5 := .slice v'.hc.av h.live.length v'.hc.cv) (a6 := .slice v'.a2 v'.ys.length v'.c2) HK5.out HF5.out
    have HS6 := gO hfin
    have R0 := aC HRd.out htd hb5
    have U0 := aJ HUd.out htd hb5
    have R1 := aA R0 JK 0 (.slice v''.a1 v''.n1 v''.c1)
    have U1 := aH U0 ⟨B9, 0, none⟩ (.slice v''.a1 v''.n1 v''.c1)
    have R2 := aA R1 JK 1 (.slice v''.hc.az 2 v''.hc.cz)
    have U2 := aH U1 ⟨B9, 1, none⟩ (.slice v''.hc.az 2 v''.hc.cz)
    have R3 := aA R2 JK 2 (.slice v''.hc.am 2 v''.hc.cm)
    have U3 := aH U2 ⟨B9, 2, none⟩ (.slice v''.hc.am 2 v''.hc.cm)
    have R4 := aA R3 JK 3 (.int .i64 (h.aF : Int))
    have U4 := aH U3 ⟨B9, 3, none⟩ (.int .i64 (h.aF : Int))
    have R5 := aA R4 JK 4 (.slice v''.hc.al v''.hc.lc.length v''.hc.cl)
    have U5 := aH U4 ⟨B9, 4, none⟩ (.slice v''.hc.al v''.hc.lc.length v''.hc.cl)
    have R6 := aA R5 JK 5 (.slice v''.hc.av h.live.length v''.hc.cv)
    have U6 := aH U5 ⟨B9, 5, none⟩ (.slice v''.hc.av h.live.length v''.hc.cv)
    have R7 := aA R6 JK 6 (.slice v''.a2 v''.ys.length v''.c2)
    have U7 := aH U6 ⟨B9, 6, none⟩ (.slice v''.a2 v''.ys.length v''.c2)
    have HR6 := gO R7
    have HU6 := gO U7
    have HB6 := gO (Below.setCell (Below.setCell (Below.setCell (Below.setCell (Below.setCell (Below.setCell (Below.setCell (HBd.out.trans (hb5.mono hwd)) (show w.heap.size ≤ (⟨B9, 0, none⟩ : Addr).block from hB9) (.slice v''.a1 v''.n1 v''.c1)) (show w.heap.size ≤ (⟨B9, 1, none⟩ : Addr).block from hB9) (.slice v''.hc.az 2 v''.hc.cz)) (show w.heap.size ≤ (⟨B9, 2, none⟩ : Addr).block from hB9) (.slice v''.hc.am 2 v''.hc.cm)) (show w.heap.size ≤ (⟨B9, 3, none⟩ : Addr).block from hB9) (.int .i64 (h.aF : Int))) (show w.heap.size ≤ (⟨B9, 4, none⟩ : Addr).block from hB9) (.slice v''.hc.al v''.hc.lc.length v''.hc.cl)) (show w.heap.size ≤ (⟨B9, 5, none⟩ : Addr).block from hB9) (.slice v''.hc.av h.live.length v''.hc.cv)) (show w.heap.size ≤ (⟨B9, 6, none⟩ : Addr).block from hB9) (.slice v''.a2 v''.ys.length v''.c2))
    clear Ai hfin y0 y1 y2 y3 y4 y5 y6 f0 f1 f2 f3 f4 f5 f6 HK5 HF5 R0 R1 R2 R3 R4 R5 R6 R7 U0 U1 U2 U3 U4 U5 U6 U7 hnew hb5 k0 k1 k2 k3 k4 k5 k6 Uz HRd HUd HBd KD FD HCR Ue
    go_wp2
    go_roundw
    case rel => exact ⟨j + 1, v'', by omega, by go_num, HS6, HR6, HU6, HB6⟩
    case measure => simp [intOf]; omega
  ·obtain rfl : j = 6 := by omega
   have x0 := sD.out.k 0
   have x1 := sD.out.k 1
   have x2 := sD.out.k 2
   have x3 := sD.out.k 3
   have x4 := sD.out.k 4
   have x5 := sD.out.k 5
   have x6 := sD.out.k 6
   have y0 := HRj.out 0
   have y1 := HRj.out 1
   have y2 := HRj.out 2
   have y3 := HRj.out 3
   have y4 := HRj.out 4
   have y5 := HRj.out 5
   have y6 := HRj.out 6
   obtain ⟨f0, f1, f2, f3, f4, f5, f6⟩ := gF7 Un.out
   unfold Sc.vals dY at x0 x1 x2 x3 x4 x5 x6
   simp only [gB, gC, gD] at x0 x1 x2 x3 x4 x5 x6 y0 y1 y2 y3 y4 y5 y6
   have hle2 : w.heap.size ≤ w.heap.size + 1 := by omega
   have KX := (aG (aG (aG (aG (aG (aG (aG HRj.out 0 (.slice v'.a1 v'.n1 v'.c1)) 1 (.slice v'.hc.az 2 v'.hc.cz)) 2 (.slice v'.hc.am 2 v'.hc.cm)) 3 (.int .i64 (h.aF : Int))) 4 (.slice v'.hc.al v'.hc.lc.length v'.hc.cl)) 5 (.slice v'.hc.av h.live.length v'.hc.cv)) 6 (.slice v'.a2 v'.ys.length v'.c2))
   simp only [gE, gG, gH] at KX
   have hX8 : (fun k => k < w.heap.size + 2) (w.heap.size + 1) := by show w.heap.size + 1 < w.heap.size + 2; omega
   have A0 := sD.out
   have A1 := A0.dZ hX8 0 (.slice v'.a1 v'.n1 v'.c1)
   have A2 := A1.dZ hX8 1 (.slice v'.hc.az 2 v'.hc.cz)
   have A3 := A2.dZ hX8 2 (.slice v'.hc.am 2 v'.hc.cm)
   have A4 := A3.dZ hX8 3 (.int .i64 (h.aF : Int))
   have A5 := A4.dZ hX8 4 (.slice v'.hc.al v'.hc.lc.length v'.hc.cl)
   have A6 := A5.dZ hX8 5 (.slice v'.hc.av h.live.length v'.hc.cv)
   have A7 := A6.dZ hX8 6 (.slice v'.a2 v'.ys.length v'.c2)
   have Rk := sD.out.r.hr.xg
   have qJ := gO A7
   have lI := gO (Below.setCell (Below.setCell (Below.setCell (Below.setCell (Below.setCell (Below.setCell (Below.setCell pR.out (show w.heap.size ≤ (⟨w.heap.size + 1, 0, none⟩ : Addr).block from hle2) (.slice v'.a1 v'.n1 v'.c1)) (show w.heap.size ≤ (⟨w.heap.size + 1, 1, none⟩ : Addr).block from hle2) (.slice v'.hc.az 2 v'.hc.cz)) (show w.heap.size ≤ (⟨w.heap.size + 1, 2, none⟩ : Addr).block from hle2) (.slice v'.hc.am 2 v'.hc.cm)) (show w.heap.size ≤ (⟨w.heap.size + 1, 3, none⟩ : Addr).block from hle2) (.int .i64 (h.aF : Int))) (show w.heap.size ≤ (⟨w.heap.size + 1, 4, none⟩ : Addr).block from hle2) (.slice v'.hc.al v'.hc.lc.length v'.hc.cl)) (show w.heap.size ≤ (⟨w.heap.size + 1, 5, none⟩ : Addr).block from hle2) (.slice v'.hc.av h.live.length v'.hc.cv)) (show w.heap.size ≤ (⟨w.heap.size + 1, 6, none⟩ : Addr).block from hle2) (.slice v'.a2 v'.ys.length v'.c2))
   have hwX : w.heap.size < wr.heap.size := Nat.lt_of_succ_lt (sD.out.r.hr.xs (w.heap.size + 1) (by show w.heap.size + 1 < w.heap.size + 2; omega))
   clear A0 A1 A2 A3 A4 A5 A6 A7 hX8 Rk sD HRj Un pR
   go_wp2_with fail
   generalize ((((((wr.setCell ⟨w.heap.size + 1, 0, none⟩ (.slice v'.a1 v'.n1 v'.c1)).setCell ⟨w.heap.size + 1, 1, none⟩ (.slice v'.hc.az 2 v'.hc.cz)).setCell ⟨w.heap.size + 1, 2, none⟩ (.slice v'.hc.am 2 v'.hc.cm)).setCell ⟨w.heap.size + 1, 3, none⟩ (.int .i64 (h.aF : Int))).setCell ⟨w.heap.size + 1, 4, none⟩ (.slice v'.hc.al v'.hc.lc.length v'.hc.cl)).setCell ⟨w.heap.size + 1, 5, none⟩ (.slice v'.hc.av h.live.length v'.hc.cv)).setCell ⟨w.heap.size + 1, 6, none⟩ (.slice v'.a2 v'.ys.length v'.c2) = wx at *
   refine bodyPost_ret (v := .tuple #[.agg (v'.vals (dY h 6)), .int .i64 0]) (by unfold Sc.vals dY; simp [results, Tryz.results27, go_sem, KX]) rfl ⟨v', rfl, qJ.out.r.toX (by show w.heap.size < w.heap.size + 2; omega) (fun k hk => by show k < w.heap.size + 2; omega) (Nat.lt_irrefl _), lI.out⟩
end
end Go.Proofs.YtcmpmobhongkiaaGreatDoor
