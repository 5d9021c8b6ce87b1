/- texts of this claim, joined. -/
import Derived.Test.YtcmpmobhongkiaaGreatDoorCG0
import Derived.Test.YtcmpmobhongkiaaGreatDoorCG11
import Derived.Test.YtcmpmobhongkiaaGreatDoorCG17
import Derived.Test.YtcmpmobhongkiaaGreatDoorCG38
import Derived.Test.YtcmpmobhongkiaaGreatDoorCG39
import Derived.Test.YtcmpmobhongkiaaGreatDoorRows
import Derived.WalkKit
import Derived.ProofKit
import Derived.OpenShut
import Derived.Deep.DeepHandedRow
import Derived.Lib.LaidTab
set_option linter.unusedVariables false
set_option linter.unusedSimpArgs false
namespace Go.Proofs.YtcmpmobhongkiaaGreatDoor
section
open Go.RowKit
set_option maxRecDepth 100000 in
theorem small1 (w : World) : Calls Tryz.prog 187 #[.int .i64 1] w fun ev w' => ev = .returned (.string ⟨#[49]⟩) ∧ w = w' := by
 go_enter Tryz.func187, Tryz.ntmps187
 go_wp2
 go_ret
 exact ⟨rfl, rfl⟩
set_option maxRecDepth 100000 in
theorem form1 (w : World) : Calls Tryz.prog 174 #[.int .i64 1, .int .i64 10] w fun ev w' => ev = .returned (.string ⟨#[49]⟩) ∧ w = w' := by
 go_enter Tryz.func174, Tryz.ntmps174
 go_wp2_with (go_at_call 187; refine (small1 _).mono ?_; rintro ev w' ⟨rfl, rfl⟩)
 go_ret
 exact ⟨rfl, rfl⟩
set_option maxRecDepth 100000 in
theorem itoaI1 (w : World) : Calls Tryz.prog 150 #[.int .i64 1] w fun ev w' => ev = .returned (.string ⟨#[49]⟩) ∧ w = w' := by
 go_enter Tryz.func150, Tryz.ntmps150
 go_wp2_with (go_at_call 174; refine (form1 _).mono ?_; rintro ev w' ⟨rfl, rfl⟩)
 go_ret
 exact ⟨rfl, rfl⟩
set_option maxRecDepth 100000 in
theorem itoa1 (w : World) : Calls Tryz.prog 105 #[.int .i64 1] w fun ev w' => ev = .returned (.string ⟨#[49]⟩) ∧ w = w' := by
 go_enter Tryz.func105, Tryz.ntmps105
 go_wp2_with (go_at_call 150; refine (itoaI1 _).mono ?_; rintro ev w' ⟨rfl, rfl⟩)
 go_ret
 exact ⟨rfl, rfl⟩
set_option maxRecDepth 100000 in
theorem kname1 (w : World) : Calls Tryz.prog 59 #[.int .i64 1] w fun ev w' => ev = .returned (.string ⟨#[107, 49]⟩) ∧ w = w' := by
 go_enter Tryz.func59, Tryz.ntmps59
 go_wp2_with (go_at_call 105; refine (itoa1 _).mono ?_; rintro ev w' ⟨rfl, rfl⟩)
 go_ret
 exact ⟨rfl, rfl⟩
set_option maxRecDepth 100000 in
theorem small2 (w : World) : Calls Tryz.prog 187 #[.int .i64 2] w fun ev w' => ev = .returned (.string ⟨#[50]⟩) ∧ w = w' := by
 go_enter Tryz.func187, Tryz.ntmps187
 go_wp2
 go_ret
 exact ⟨rfl, rfl⟩
set_option maxRecDepth 100000 in
theorem form2 (w : World) : Calls Tryz.prog 174 #[.int .i64 2, .int .i64 10] w fun ev w' => ev = .returned (.string ⟨#[50]⟩) ∧ w = w' := by
 go_enter Tryz.func174, Tryz.ntmps174
 go_wp2_with (go_at_call 187; refine (small2 _).mono ?_; rintro ev w' ⟨rfl, rfl⟩)
 go_ret
 exact ⟨rfl, rfl⟩
set_option maxRecDepth 100000 in
theorem itoaI2 (w : World) : Calls Tryz.prog 150 #[.int .i64 2] w fun ev w' => ev = .returned (.string ⟨#[50]⟩) ∧ w = w' := by
 go_enter Tryz.func150, Tryz.ntmps150
 go_wp2_with (go_at_call 174; refine (form2 _).mono ?_; rintro ev w' ⟨rfl, rfl⟩)
 go_ret
 exact ⟨rfl, rfl⟩
set_option maxRecDepth 100000 in
theorem itoa2 (w : World) : Calls Tryz.prog 105 #[.int .i64 2] w fun ev w' => ev = .returned (.string ⟨#[50]⟩) ∧ w = w' := by
 go_enter Tryz.func105, Tryz.ntmps105
 go_wp2_with (go_at_call 150; refine (itoaI2 _).mono ?_; rintro ev w' ⟨rfl, rfl⟩)
 go_ret
 exact ⟨rfl, rfl⟩
set_option maxRecDepth 100000 in
theorem kname2 (w : World) : Calls Tryz.prog 59 #[.int .i64 2] w fun ev w' => ev = .returned (.string ⟨#[107, 50]⟩) ∧ w = w' := by
 go_enter Tryz.func59, Tryz.ntmps59
 go_wp2_with (go_at_call 105; refine (itoa2 _).mono ?_; rintro ev w' ⟨rfl, rfl⟩)
 go_ret
 exact ⟨rfl, rfl⟩
set_option maxRecDepth 100000 in
theorem small4 (w : World) : Calls Tryz.prog 187 #[.int .i64 4] w fun ev w' => ev = .returned (.string ⟨#[52]⟩) ∧ w = w' := by
 go_enter Tryz.func187, Tryz.ntmps187
 go_wp2
 go_ret
 exact ⟨rfl, rfl⟩
set_option maxRecDepth 100000 in
theorem form4 (w : World) : Calls Tryz.prog 174 #[.int .i64 4, .int .i64 10] w fun ev w' => ev = .returned (.string ⟨#[52]⟩) ∧ w = w' := by
 go_enter Tryz.func174, Tryz.ntmps174
 go_wp2_with (go_at_call 187; refine (small4 _).mono ?_; rintro ev w' ⟨rfl, rfl⟩)
 go_ret
 exact ⟨rfl, rfl⟩
set_option maxRecDepth 100000 in
theorem itoaI4 (w : World) : Calls Tryz.prog 150 #[.int .i64 4] w fun ev w' => ev = .returned (.string ⟨#[52]⟩) ∧ w = w' := by
 go_enter Tryz.func150, Tryz.ntmps150
 go_wp2_with (go_at_call 174; refine (form4 _).mono ?_; rintro ev w' ⟨rfl, rfl⟩)
 go_ret
 exact ⟨rfl, rfl⟩
set_option maxRecDepth 100000 in
theorem itoa4 (w : World) : Calls Tryz.prog 105 #[.int .i64 4] w fun ev w' => ev = .returned (.string ⟨#[52]⟩) ∧ w = w' := by
 go_enter Tryz.func105, Tryz.ntmps105
 go_wp2_with (go_at_call 150; refine (itoaI4 _).mono ?_; rintro ev w' ⟨rfl, rfl⟩)
 go_ret
 exact ⟨rfl, rfl⟩
set_option maxRecDepth 100000 in
theorem kname4 (w : World) : Calls Tryz.prog 59 #[.int .i64 4] w fun ev w' => ev = .returned (.string ⟨#[107, 52]⟩) ∧ w = w' := by
 go_enter Tryz.func59, Tryz.ntmps59
 go_wp2_with (go_at_call 105; refine (itoa4 _).mono ?_; rintro ev w' ⟨rfl, rfl⟩)
 go_ret
 exact ⟨rfl, rfl⟩
set_option maxRecDepth 100000 in
theorem small8 (w : World) : Calls Tryz.prog 187 #[.int .i64 8] w fun ev w' => ev = .returned (.string ⟨#[56]⟩) ∧ w = w' := by
 go_enter Tryz.func187, Tryz.ntmps187
 go_wp2
 go_ret
 exact ⟨rfl, rfl⟩
set_option maxRecDepth 100000 in
theorem form8 (w : World) : Calls Tryz.prog 174 #[.int .i64 8, .int .i64 10] w fun ev w' => ev = .returned (.string ⟨#[56]⟩) ∧ w = w' := by
 go_enter Tryz.func174, Tryz.ntmps174
 go_wp2_with (go_at_call 187; refine (small8 _).mono ?_; rintro ev w' ⟨rfl, rfl⟩)
 go_ret
 exact ⟨rfl, rfl⟩
set_option maxRecDepth 100000 in
theorem itoaI8 (w : World) : Calls Tryz.prog 150 #[.int .i64 8] w fun ev w' => ev = .returned (.string ⟨#[56]⟩) ∧ w = w' := by
 go_enter Tryz.func150, Tryz.ntmps150
 go_wp2_with (go_at_call 174; refine (form8 _).mono ?_; rintro ev w' ⟨rfl, rfl⟩)
 go_ret
 exact ⟨rfl, rfl⟩
set_option maxRecDepth 100000 in
theorem itoa8 (w : World) : Calls Tryz.prog 105 #[.int .i64 8] w fun ev w' => ev = .returned (.string ⟨#[56]⟩) ∧ w = w' := by
 go_enter Tryz.func105, Tryz.ntmps105
 go_wp2_with (go_at_call 150; refine (itoaI8 _).mono ?_; rintro ev w' ⟨rfl, rfl⟩)
 go_ret
 exact ⟨rfl, rfl⟩
set_option maxRecDepth 100000 in
theorem kname8 (w : World) : Calls Tryz.prog 59 #[.int .i64 8] w fun ev w' => ev = .returned (.string ⟨#[107, 56]⟩) ∧ w = w' := by
 go_enter Tryz.func59, Tryz.ntmps59
 go_wp2_with (go_at_call 105; refine (itoa8 _).mono ?_; rintro ev w' ⟨rfl, rfl⟩)
 go_ret
 exact ⟨rfl, rfl⟩
set_option maxRecDepth 100000 in
theorem small16 (w : World) : Calls Tryz.prog 187 #[.int .i64 16] w fun ev w' => ev = .returned (.string ⟨#[49, 54]⟩) ∧ w = w' := by
 go_enter Tryz.func187, Tryz.ntmps187
 go_wp2
 go_ret
 exact ⟨rfl, rfl⟩
set_option maxRecDepth 100000 in
theorem form16 (w : World) : Calls Tryz.prog 174 #[.int .i64 16, .int .i64 10] w fun ev w' => ev = .returned (.string ⟨#[49, 54]⟩) ∧ w = w' := by
 go_enter Tryz.func174, Tryz.ntmps174
 go_wp2_with (go_at_call 187; refine (small16 _).mono ?_; rintro ev w' ⟨rfl, rfl⟩)
 go_ret
 exact ⟨rfl, rfl⟩
set_option maxRecDepth 100000 in
theorem itoaI16 (w : World) : Calls Tryz.prog 150 #[.int .i64 16] w fun ev w' => ev = .returned (.string ⟨#[49, 54]⟩) ∧ w = w' := by
 go_enter Tryz.func150, Tryz.ntmps150
 go_wp2_with (go_at_call 174; refine (form16 _).mono ?_; rintro ev w' ⟨rfl, rfl⟩)
 go_ret
 exact ⟨rfl, rfl⟩
set_option maxRecDepth 100000 in
theorem itoa16 (w : World) : Calls Tryz.prog 105 #[.int .i64 16] w fun ev w' => ev = .returned (.string ⟨#[49, 54]⟩) ∧ w = w' := by
 go_enter Tryz.func105, Tryz.ntmps105
 go_wp2_with (go_at_call 150; refine (itoaI16 _).mono ?_; rintro ev w' ⟨rfl, rfl⟩)
 go_ret
 exact ⟨rfl, rfl⟩
set_option maxRecDepth 100000 in
theorem kname16 (w : World) : Calls Tryz.prog 59 #[.int .i64 16] w fun ev w' => ev = .returned (.string ⟨#[107, 49, 54]⟩) ∧ w = w' := by
 go_enter Tryz.func59, Tryz.ntmps59
 go_wp2_with (go_at_call 105; refine (itoa16 _).mono ?_; rintro ev w' ⟨rfl, rfl⟩)
 go_ret
 exact ⟨rfl, rfl⟩
set_option maxRecDepth 100000 in
theorem small32 (w : World) : Calls Tryz.prog 187 #[.int .i64 32] w fun ev w' => ev = .returned (.string ⟨#[51, 50]⟩) ∧ w = w' := by
 go_enter Tryz.func187, Tryz.ntmps187
 go_wp2
 go_ret
 exact ⟨rfl, rfl⟩
set_option maxRecDepth 100000 in
theorem form32 (w : World) : Calls Tryz.prog 174 #[.int .i64 32, .int .i64 10] w fun ev w' => ev = .returned (.string ⟨#[51, 50]⟩) ∧ w = w' := by
 go_enter Tryz.func174, Tryz.ntmps174
 go_wp2_with (go_at_call 187; refine (small32 _).mono ?_; rintro ev w' ⟨rfl, rfl⟩)
 go_ret
 exact ⟨rfl, rfl⟩
set_option maxRecDepth 100000 in
theorem itoaI32 (w : World) : Calls Tryz.prog 150 #[.int .i64 32] w fun ev w' => ev = .returned (.string ⟨#[51, 50]⟩) ∧ w = w' := by
 go_enter Tryz.func150, Tryz.ntmps150
 go_wp2_with (go_at_call 174; refine (form32 _).mono ?_; rintro ev w' ⟨rfl, rfl⟩)
 go_ret
 exact ⟨rfl, rfl⟩
set_option maxRecDepth 100000 in
theorem itoa32 (w : World) : Calls Tryz.prog 105 #[.int .i64 32] w fun ev w' => ev = .returned (.string ⟨#[51, 50]⟩) ∧ w = w' := by
 go_enter Tryz.func105, Tryz.ntmps105
 go_wp2_with (go_at_call 150; refine (itoaI32 _).mono ?_; rintro ev w' ⟨rfl, rfl⟩)
 go_ret
 exact ⟨rfl, rfl⟩
set_option maxRecDepth 100000 in
theorem kname32 (w : World) : Calls Tryz.prog 59 #[.int .i64 32] w fun ev w' => ev = .returned (.string ⟨#[107, 51, 50]⟩) ∧ w = w' := by
 go_enter Tryz.func59, Tryz.ntmps59
 go_wp2_with (go_at_call 105; refine (itoa32 _).mono ?_; rintro ev w' ⟨rfl, rfl⟩)
 go_ret
 exact ⟨rfl, rfl⟩
end
section
open Go.RowKit

theorem Vu (k : Nat) : List.replicate k (Value.int .i64 0) = (List.replicate k (0 : Int)).map vI := by
 rw [List.map_replicate]
 rfl
set_option maxRecDepth 100000 in
theorem OO (w : World) : Calls Tryz.prog 58 #[.int .i64 256] w fun ev w' => ∃ (a' : Option Addr) (c' : Nat), ev = .returned (.tuple #[.slice a' 4096 c', .int .i64 0]) ∧ w'.ownsRow w.heap.size 3 1 (.slice a' 4096 c') 4096 ((List.replicate 4096 (0 : Int)).map vI) ∧ Below w.heap.size w w' := by
 obtain ⟨i0, hi, hz, hsize, hby⟩ := info_parts kY
 go_enter Tryz.func58, Tryz.ntmps58
 go_wp2_with (at_make; refine wpList_make_full _ rfl _ _ 39 rfl w.heap.size 3 i0 (.int .i64 0) 1 Tryz.underlying39 hi hz hsize .i64 .i64 _ _ 4096 rfl rfl rfl rfl ?q1 ?q2 ?q3 ?_)
 case q1 => rw [hby]; decide
 case q2 => unfold maxLen; omega
 case q3 => exact Nat.le_refl _
 intro w1 hown hgrow
 rw [toList_madeCells_one, Vu] at hown
 have HO := gO hown
 have hbw := (Below.refl w.heap.size w).grown hgrow (Nat.le_refl _) (by simp)
 have HB := gO hbw
 clear hown hbw hgrow
 go_wp2
 exact bodyPost_ret (v := .tuple #[.slice (some ⟨w.heap.size, 0, none⟩) 4096 4096, .int .i64 0]) (by simp [results, Tryz.results58, go_sem]) rfl ⟨_, _, rfl, HO.out, HB.out⟩

structure Yr (w : World) : Prop where
 sz : 0 < w.heap.size
 c : ∀ i v, (#[.int .i64 1, .int .i64 2, .int .i64 4, .int .i64 8, .int .i64 16, .int .i64 32] : Array Value)[i]? = some v → w.cell? ⟨0, i, none⟩ = some v
theorem Yr.below {w w' : World} (h : Yr w) (hb : Below w.heap.size w w') : Yr w' :=
 ⟨gI h.sz hb.size, fun i v hv => (hb.cell (p := ⟨0, i, none⟩) h.sz).trans (h.c i v hv)⟩
theorem Yt {j : Nat} (hj : j < 6) (w : World) : Calls Tryz.prog 59 #[.int .i64 (([1, 2, 4, 8, 16, 32].getD j 0 : Nat) : Int)] w fun ev w' => ev = .returned (.string ⟨(kN ([1, 2, 4, 8, 16, 32].getD j 0)).toArray⟩) ∧ w = w' := by
 obtain rfl | rfl | rfl | rfl | rfl | rfl : j = 0 ∨ j = 1 ∨ j = 2 ∨ j = 3 ∨ j = 4 ∨ j = 5 := by omega
 ·exact kname1 w
 ·exact kname2 w
 ·exact kname4 w
 ·exact kname8 w
 ·exact kname16 w
 ·exact kname32 w
theorem xB {h : Hp} (hk : dX h) : ∀ j, j ≤ 6 → dM (fA h j)
 | 0, _ => Hg hk
 | j + 1, hj => by
  obtain ⟨h1, h2, h3⟩ := tH h (j := j) (by omega)
  have hz : 1 ≤ [1, 2, 4, 8, 16, 32].getD j 0 ∧ [1, 2, 4, 8, 16, 32].getD j 0 ≤ 64 := by
   obtain rfl | rfl | rfl | rfl | rfl | rfl : j = 0 ∨ j = 1 ∨ j = 2 ∨ j = 3 ∨ j = 4 ∨ j = 5 := by omega
   all_goals decide
  exact ((xB hk j (by omega)).create h3 hz h1 h2).1
theorem yB (h : Hp) (j : Nat) : ∀ c ∈ (fA h j).cs, c.ns.length ≤ 999 := fun c hc => by
 unfold fA at hc
 obtain ⟨k, _, rfl⟩ := List.mem_map.1 hc
 show [kN k].length ≤ 999
 simp

theorem aBC {j : Nat} (hj : j < 6) (w : World) : (Instr.index 117 (.agg #[.int .i64 1, .int .i64 2, .int .i64 4, .int .i64 8, .int .i64 16, .int .i64 32]) (.int .i64 (j : Int))).run Tryz.prog w = .ok (.int .i64 (([1, 2, 4, 8, 16, 32].getD j 0 : Nat) : Int)) w := by
 obtain rfl | rfl | rfl | rfl | rfl | rfl : j = 0 ∨ j = 1 ∨ j = 2 ∨ j = 3 ∨ j = 4 ∨ j = 5 := by omega
 all_goals kernel_rfl
def WQ (h : Hp) (w : World) (ev : Ending) (w' : World) : Prop := ∃ v', ev = .returned (.tuple #[.agg (v'.vals (fA h 6)), .int .i64 0]) ∧ jY w' w.heap.size (fA h 6) v' ∧ Below w.heap.size w w'
set_option maxHeartbeats 8000000 in
set_option maxRecDepth 100000 in
theorem Vw (m1 m2 : Option Addr) (n1 n2 d1 d2 : Nat) (b : Bt) (split least aF : Nat) (w : World) (hbt : JX w m1 m2 n1 n2 b) (hm : dU b.m = true) (hrr : dU b.r = true) (hfr : dU (iT b) = true) (h1 : split ≤ 256) (h2 : split % 16 = 0) (h3 : least ≤ 256) (h4 : 1 ≤ aF ∧ aF ≤ 4) (hsz : Yr w) :
  Calls Tryz.prog 27 #[.agg #[.slice m1 n1 d1, .slice m2 n2 d2, .int .i64 (split : Int), .int .i64 (least : Int), .int .i64 (aF : Int)]] w (WQ (newH (iT b) split least aF) w) := by
 obtain ⟨K1, K2, F1, F2, hsb, hbw⟩ := boxes2 w #[.slice m1 n1 d1, .slice m2 n2 d2, .int .i64 (split : Int), .int .i64 (least : Int), .int .i64 (aF : Int)] 29 #[.slice none 0 0, .slice none 0 0, .slice none 0 0, .int .i64 0, .slice none 0 0, .slice none 0 0, .slice none 0 0] 47
 have Ws := gO (hbt.below hbw)
 have kM := gO hsz
 have HB1 := gO hbw
 have vW := gO hfr
 have HM := gO hm
 have HRR := gO hrr
 have HH4 := gO h4
 obtain ⟨hk0, hc0⟩ := MR hfr h1 h2 h3 h4
 have HK0 := gO hk0
 have HK1 := gO K1
 have HK2 := gO K2
 have HF2 := gO F2
 have hsb0 : w.heap.size < ((w.alloc (.cells #[.slice m1 n1 d1, .slice m2 n2 d2, .int .i64 (split : Int), .int .i64 (least : Int), .int .i64 (aF : Int)] 29)).alloc (.cells #[.slice none 0 0, .slice none 0 0, .slice none 0 0, .int .i64 0, .slice none 0 0, .slice none 0 0, .slice none 0 0] 47)).heap.size := by omega
 have k0 := K1 0
 have k1 := K1 1
 simp only [gB, gC, gD] at k0 k1
 clear hbt hsz hbw hfr hm hrr h4 hk0 hc0 K1 K2 F1 F2
 go_enter Tryz.func27, Tryz.ntmps27
 go_upto_region 1 with fail
 generalize (w.alloc (.cells #[.slice m1 n1 d1, .slice m2 n2 d2, .int .i64 (split : Int), .int .i64 (least : Int), .int .i64 (aF : Int)] 29)).alloc (.cells #[.slice none 0 0, .slice none 0 0, .slice none 0 0, .int .i64 0, .slice none 0 0, .slice none 0 0, .slice none 0 0] 47) = w2 at *
 go_upto_region 4 with (go_at_call 56; refine (OL m1 m2 n1 n2 d1 d2 b w2 Ws.out HM.out HRR.out).mono ?_; rintro ev w3 ⟨aR, cR, rfl, hoR, hb3⟩)
 have Gu := gO (aW hoR)
 have HB3 := gO hb3
 have K13 := aB HK1.out hsb0 hb3
 have k2 := K13 2
 have k3 := K13 3
 have k4 := K13 4
 simp only [gB, gC, gD] at k2 k3 k4
 clear k0 k1 K13 hoR hb3
 go_upto_region 7 with (go_at_call 57; refine (Vr aR (iT b).length cR (iT b) split least aF w3 rfl Gu.out vW.out h1 h2 h3 HH4.out).mono ?_; rintro ev w4 ⟨c', he, hn4, hb4⟩; unfold Hc.vals at he; subst he)
 have HN4 := gO hn4
 have HB4 := gO (Below.step HB3.out hb4)
 clear k2 k3 k4 hn4 hb4
 have bA := aC w4 (.cells #[.slice c'.az 2 c'.cz, .slice c'.am 2 c'.cm, .int .i64 ((newH (iT b) split least aF).aF : Int), .slice c'.al c'.lc.length c'.cl, .slice c'.av (newH (iT b) split least aF).live.length c'.cv] 44)
 have K6 := bC w4 #[.slice c'.az 2 c'.cz, .slice c'.am 2 c'.cm, .int .i64 ((newH (iT b) split least aF).aF : Int), .slice c'.al c'.lc.length c'.cl, .slice c'.av (newH (iT b) split least aF).live.length c'.cv] 44
 have s46 : w4.heap.size < (w4.alloc (.cells #[.slice c'.az 2 c'.cz, .slice c'.am 2 c'.cm, .int .i64 ((newH (iT b) split least aF).aF : Int), .slice c'.al c'.lc.length c'.cl, .slice c'.av (newH (iT b) split least aF).live.length c'.cv] 44)).heap.size := by simp
 have HKH := gO K6
 have HB5 := gO (Below.step HB4.out bA)
 have HN5 := gO (HR.below HN4.out bA)
 have aEo := HB3.out.size
 clear K6 bA
 generalize hh : newH (iT b) split least aF = h at *
 clear hh
 go_upto_region 8 with (go_at_call 58; refine (OO _).mono ?_; rintro ev w6 ⟨aw, cw, rfl, how, hb6⟩)
 have K66 := aB HKH.out s46 hb6
 obtain ⟨k0, k1, k2, k3, k4⟩ := gA5 K66
 clear K66
 go_upto_region 9 with fail
 have b7 := aC w6 (.cells #[.slice aw 4096 cw, .slice c'.az 2 c'.cz, .slice c'.am 2 c'.cm, .int .i64 (h.aF : Int), .slice c'.al c'.lc.length c'.cl, .slice c'.av h.live.length c'.cv, .slice none 0 0] 47)
 have aEp := hb6.size
 have hs2 := HB1.out.size
 have aEq := HB3.out.size
 have aEr := HB5.out.size
 have s67 : w6.heap.size < (w6.alloc (.cells #[.slice aw 4096 cw, .slice c'.az 2 c'.cz, .slice c'.am 2 c'.cm, .int .i64 (h.aF : Int), .slice c'.al c'.lc.length c'.cl, .slice c'.av h.live.length c'.cv, .slice none 0 0] 47)).heap.size := by simp
 have hblk : ∀ q ∈ c'.rows h ++ c'.reads h, ∀ k, q.v.ownBlock = some k → w3.heap.size ≤ k ∧ k < (w4.alloc (.cells #[.slice c'.az 2 c'.cz, .slice c'.am 2 c'.cm, .int .i64 (h.aF : Int), .slice c'.al c'.lc.length c'.cl, .slice c'.av h.live.length c'.cv] 44)).heap.size := fun q hq k e => by
  refine ⟨?_, HR.lt HN5.out q hq k e⟩
  rcases List.mem_append.1 hq with hq | hq
  ·exact Nat.le_of_not_lt (HN5.out.og q hq k e).2
  ·exact Nat.le_of_not_lt (HN5.out.rx q hq k e)
 have hstart : SR (w6.alloc (.cells #[.slice aw 4096 cw, .slice c'.az 2 c'.cz, .slice c'.am 2 c'.cm, .int .i64 (h.aF : Int), .slice c'.al c'.lc.length c'.cl, .slice c'.av h.live.length c'.cv, .slice none 0 0] 47)) w6.heap.size (fun k => k < w.heap.size + 2) ⟨List.replicate 4096 0, h, []⟩ ⟨aw, 4096, cw, c', none, 0, []⟩ :=
  SR.start (own_base (own_below how b7 (Nat.le_refl _)) (Nat.zero_le _)) ((HR.below (HR.below HN5.out hb6) b7).any s67 (fun q hq k e => by
   have := hblk q hq k e
   omega) (fun k hk => by omega) (by omega)) fun g e => by
   have h9 := how.lt g e
   refine ⟨by omega, by omega, fun q hq e2 => ?_⟩
   have := hblk q hq g e2
   omega
 have HS7 : Hid (SS (w6.alloc (.cells #[.slice aw 4096 cw, .slice c'.az 2 c'.cz, .slice c'.am 2 c'.cm, .int .i64 (h.aF : Int), .slice c'.al c'.lc.length c'.cl, .slice c'.av h.live.length c'.cv, .slice none 0 0] 47)) w6.heap.size (fun k => k < w.heap.size + 2) (fA h 0) ⟨aw, 4096, cw, c', none, 0, []⟩) := ⟨hstart, bC _ _ _, eH _ _ _⟩
 have b27 : Below w2.heap.size w2 (w6.alloc (.cells #[.slice aw 4096 cw, .slice c'.az 2 c'.cz, .slice c'.am 2 c'.cm, .int .i64 (h.aF : Int), .slice c'.al c'.lc.length c'.cl, .slice c'.av h.live.length c'.cv, .slice none 0 0] 47)) := Below.step HB5.out (Below.step hb6 b7)
 have HR7 := gO (aB HK2.out hsb b27)
 have HU7 := gO (aJ HF2.out hsb b27)
 have HB7 := gO (HB1.out.trans (b27.mono hs2))
 have hZ7 := kM.out.below HB7.out
 have z0 := hZ7.c 0 _ rfl
 have z1 := hZ7.c 1 _ rfl
 have z2 := hZ7.c 2 _ rfl
 have z3 := hZ7.c 3 _ rfl
 have z4 := hZ7.c 4 _ rfl
 have z5 := hZ7.c 5 _ rfl
 have aIs : w.heap.size + 1 < w6.heap.size := by omega
 clear b7 b27 hstart hblk how hb6 k0 k1 k2 k3 k4 HKH HN5 HN4 HB4 HB5 HB3 Gu Ws hZ7 HK1 HK2 HF2 HB1 s46 aEo aEp aEq aEr hsb0
 generalize (w6.alloc (.cells #[.slice aw 4096 cw, .slice c'.az 2 c'.cz, .slice c'.am 2 c'.cm, .int .i64 (h.aF : Int), .slice c'.al c'.lc.length c'.cl, .slice c'.av h.live.length c'.cv, .slice none 0 0] 47)) = w7 at *
 generalize w6.heap.size = B9 at *
 go_wp2_with fail
 clear z0 z1 z2 z3 z4 z5
 go_loopw [45] (fun s45 wr => ∃ (j : Nat) (v' : Sc), j ≤ 6 ∧ s45 = .int .i64 (j : Int) ∧ Hid (SS wr B9 (fun k => k < w.heap.size + 2) (fA h j) v') ∧ Hid (∀ o, wr.cell? ⟨w.heap.size + 1, o, none⟩ = (#[.slice none 0 0, .slice none 0 0, .slice none 0 0, .int .i64 0, .slice none 0 0, .slice none 0 0, .slice none 0 0] : Array Value)[o]?) ∧ Hid (∀ o, wr.frozen? ⟨w.heap.size + 1, o, none⟩ = false) ∧ Hid (Below w.heap.size w wr)) (fun s45 _ => 6 - (intOf s45).toNat)
 case atStart => exact ⟨0, _, Nat.zero_le _, rfl, HS7, HR7, HU7, HB7⟩
 case round =>
  obtain ⟨j, v', hj, rfl, kL, HRj, JQ, lY⟩ := hrel
  clear HS7 HR7 HU7 HB7
  by_cases hlt : j < 6
  ·have hji : (j : Int) < 6 := by omega
   obtain ⟨z, hz⟩ : ∃ z, [1, 2, 4, 8, 16, 32].getD j 0 = z := ⟨_, rfl⟩
   have HZ := gO hz
   clear hz
   have hidx := aBC hlt wr
   rw [HZ.out] at hidx
   go_upto_region 12 with fail
   obtain ⟨hno, hcr, hnm⟩ := tH h hlt
   rw [HZ.out] at hno hcr hnm
   have aEs : 1 ≤ z ∧ z ≤ 64 := by
    rw [← HZ.out]
    obtain rfl | rfl | rfl | rfl | rfl | rfl : j = 0 ∨ j = 1 ∨ j = 2 ∨ j = 3 ∨ j = 4 ∨ j = 5 := by omega
    all_goals decide
   have hd := (Below.refl wr.heap.size wr).drew
   have Vx := gO (kL.out.below hd)
   have HRd := gO (aB HRj.out (show w.heap.size + 1 < wr.heap.size by have := kL.out.r.hr.xs (w.heap.size + 1) (by show w.heap.size + 1 < w.heap.size + 2; omega); exact this) hd)
   have HUd := gO (aJ JQ.out (show w.heap.size + 1 < wr.heap.size by have := kL.out.r.hr.xs (w.heap.size + 1) (by show w.heap.size + 1 < w.heap.size + 2; omega); exact this) hd)
   have HBd := gO (lY.out.trans (hd.mono (show w.heap.size ≤ wr.heap.size from lY.out.size)))
   have hwd : w.heap.size ≤ wr.drew.heap.size := HBd.out.size
   have UZ : Hid (∀ W, Calls Tryz.prog 59 #[.int .i64 (z : Int)] W fun ev w' => ev = .returned (.string ⟨(kN z).toArray⟩) ∧ W = w') := fun W => by
    have h9 := Yt hlt W
    rw [HZ.out] at h9
    exact h9
   have WB : Hid (Calls Tryz.prog 31 #[.agg #[.slice v'.a1 v'.n1 v'.c1, .slice v'.hc.az 2 v'.hc.cz, .slice v'.hc.am 2 v'.hc.cm, .int .i64 (h.aF : Int), .slice v'.hc.al v'.hc.lc.length v'.hc.cl, .slice v'.hc.av h.live.length v'.hc.cv, .slice v'.a2 v'.ys.length v'.c2], .string ⟨(kN z).toArray⟩, .int .i64 z, .int .i64 1] wr.drew fun ev w' => ∃ v'', ev = .returned (.tuple #[.agg #[.slice v''.a1 v''.n1 v''.c1, .slice v''.hc.az 2 v''.hc.cz, .slice v''.hc.am 2 v''.hc.cm, .int .i64 (h.aF : Int), .slice v''.hc.al v''.hc.lc.length v''.hc.cl, .slice v''.hc.av h.live.length v''.hc.cv, .slice v''.a2 v''.ys.length v''.c2], .int .i64 0]) ∧ jY w' wr.drew.heap.size (fA h (j + 1)) v'' ∧ Below wr.drew.heap.size wr.drew w') :=
    Ai v' (fA h j) (fA h (j + 1)) (kN z) z wr.drew Vx.out.r.at (xB HK0.out j (by omega)) (yB h j) hnm aEs hno hcr
   have k0 := kL.out.k 0
   have k1 := kL.out.k 1
   have k2 := kL.out.k 2
   have k3 := kL.out.k 3
   have k4 := kL.out.k 4
   have k5 := kL.out.k 5
   have k6 := kL.out.k 6
   unfold Sc.vals fA at k0 k1 k2 k3 k4 k5 k6
   simp only [gB, gC, gD] at k0 k1 k2 k3 k4 k5 k6
   have Yu : B9 < wr.drew.heap.size := Vx.out.r.hr.gs
   have SE := Vx.out.r.hr.xg
   have hB9 : w.heap.size ≤ B9 := Nat.le_of_not_lt fun h9 => SE (by show B9 < w.heap.size + 2; omega)
   have htd : w.heap.size + 1 < wr.drew.heap.size := Vx.out.r.hr.xs (w.heap.size + 1) (by show w.heap.size + 1 < w.heap.size + 2; omega)
   have Kr : w.heap.size + 1 ≠ B9 := fun e => SE (by show B9 < w.heap.size + 2; omega)
   have KD := gO Vx.out.k
   have FD := gO Vx.out.fz
   clear hd hno hcr hnm hidx SE kL HRj JQ lY
   go_region_law (first | (go_simp; go_at_call 59; refine (UZ.out _).mono ?_; rintro ev wn ⟨rfl, rfl⟩) | (go_simp; go_at_call 31; refine WB.out.mono ?_; rintro ev w5 ⟨v'', rfl, hnew, hb5⟩; have K5 := aB KD.out Yu hb5; have F5 := aJ FD.out Yu hb5; have y0 := K5 0; have y1 := K5 1; have y2 := K5 2; have y3 := K5 3; have y4 := K5 4; have y5 := K5 5; have y6 := K5 6; have f0 := F5 0; have f1 := F5 1; have f2 := F5 2; have f3 := F5 3; have f4 := F5 4; have f5 := F5 5; have f6 := F5 6; unfold Sc.vals fA at y0 y1 y2 y3 y4 y5 y6; simp only [gB, gC, gD] at y0 y1 y2 y3 y4 y5 y6; have HK5 := gO K5; have HF5 := gO F5; clear K5 F5))
   all_goals
    have rV : SR w5 B9 (fun k => k < w.heap.size + 2) (fA h (j + 1)) v'' := SR.lift hnew Yu (fun k hk => Vx.out.r.hr.xs k hk) Vx.out.r.hr.xg
    have hfin := SS.put7 rV (a0 := .slice v'.a1 v'.n1 v'.c1) (a1 := .slice v'.hc.az 2 v'.hc.cz) (a2 := .slice v'.hc.am 2 v'.hc.cm) (a3 := .int .i64 (h.aF : Int)) (a4 := .slice v'.hc.al v'.hc.lc.length v'.hc.cl) (a5 := .slice v'.hc.av h.live.length v'.hc.cv) (a6 := .slice v'.a2 v'.ys.length v'.c2) HK5.out HF5.out
    have HS6 := gO hfin
    have R0 := aB HRd.out htd hb5
    have U0 := aJ HUd.out htd hb5
    have R1 := aA R0 Kr 0 (.slice v''.a1 v''.n1 v''.c1)
    have U1 := aH U0 ⟨B9, 0, none⟩ (.slice v''.a1 v''.n1 v''.c1)
    have R2 := aA R1 Kr 1 (.slice v''.hc.az 2 v''.hc.cz)
    have U2 := aH U1 ⟨B9, 1, none⟩ (.slice v''.hc.az 2 v''.hc.cz)
    have R3 := aA R2 Kr 2 (.slice v''.hc.am 2 v''.hc.cm)
    have U3 := aH U2 ⟨B9, 2, none⟩ (.slice v''.hc.am 2 v''.hc.cm)
    have R4 := aA R3 Kr 3 (.int .i64 (h.aF : Int))
    have U4 := aH U3 ⟨B9, 3, none⟩ (.int .i64 (h.aF : Int))
    have R5 := aA R4 Kr 4 (.slice v''.hc.al v''.hc.lc.length v''.hc.cl)
    have U5 := aH U4 ⟨B9, 4, none⟩ (.slice v''.hc.al v''.hc.lc.length v''.hc.cl)
    have R6 := aA R5 Kr 5 (.slice v''.hc.av h.live.length v''.hc.cv)
    have U6 := aH U5 ⟨B9, 5, none⟩ (.slice v''.hc.av h.live.length v''.hc.cv)
    have R7 := aA R6 Kr 6 (.slice v''.a2 v''.ys.length v''.c2)
    have U7 := aH U6 ⟨B9, 6, none⟩ (.slice v''.a2 v''.ys.length v''.c2)
    have HR6 := gO R7
    have HU6 := gO U7
    have HB6 := gO (Below.setCell (Below.setCell (Below.setCell (Below.setCell (Below.setCell (Below.setCell (Below.setCell (HBd.out.trans (hb5.mono hwd)) (show w.heap.size ≤ (⟨B9, 0, none⟩ : Addr).block from hB9) (.slice v''.a1 v''.n1 v''.c1)) (show w.heap.size ≤ (⟨B9, 1, none⟩ : Addr).block from hB9) (.slice v''.hc.az 2 v''.hc.cz)) (show w.heap.size ≤ (⟨B9, 2, none⟩ : Addr).block from hB9) (.slice v''.hc.am 2 v''.hc.cm)) (show w.heap.size ≤ (⟨B9, 3, none⟩ : Addr).block from hB9) (.int .i64 (h.aF : Int))) (show w.heap.size ≤ (⟨B9, 4, none⟩ : Addr).block from hB9) (.slice v''.hc.al v''.hc.lc.length v''.hc.cl)) (show w.heap.size ≤ (⟨B9, 5, none⟩ : Addr).block from hB9) (.slice v''.hc.av h.live.length v''.hc.cv)) (show w.heap.size ≤ (⟨B9, 6, none⟩ : Addr).block from hB9) (.slice v''.a2 v''.ys.length v''.c2))
    clear rV hfin y0 y1 y2 y3 y4 y5 y6 f0 f1 f2 f3 f4 f5 f6 HK5 HF5 R0 R1 R2 R3 R4 R5 R6 R7 U0 U1 U2 U3 U4 U5 U6 U7 hnew hb5 k0 k1 k2 k3 k4 k5 k6 Vx HRd HUd HBd KD FD WB UZ
    go_wp2
    go_roundw
    case rel => exact ⟨j + 1, v'', by omega, by go_num, HS6, HR6, HU6, HB6⟩
    case measure => simp [intOf]; omega
  ·obtain rfl : j = 6 := by omega
   have x0 := kL.out.k 0
   have x1 := kL.out.k 1
   have x2 := kL.out.k 2
   have x3 := kL.out.k 3
   have x4 := kL.out.k 4
   have x5 := kL.out.k 5
   have x6 := kL.out.k 6
   have y0 := HRj.out 0
   have y1 := HRj.out 1
   have y2 := HRj.out 2
   have y3 := HRj.out 3
   have y4 := HRj.out 4
   have y5 := HRj.out 5
   have y6 := HRj.out 6
   obtain ⟨f0, f1, f2, f3, f4, f5, f6⟩ := gF7 JQ.out
   unfold Sc.vals fA at x0 x1 x2 x3 x4 x5 x6
   simp only [gB, gC, gD] at x0 x1 x2 x3 x4 x5 x6 y0 y1 y2 y3 y4 y5 y6
   have hle2 : w.heap.size ≤ w.heap.size + 1 := by omega
   have KX := (aG (aG (aG (aG (aG (aG (aG HRj.out 0 (.slice v'.a1 v'.n1 v'.c1)) 1 (.slice v'.hc.az 2 v'.hc.cz)) 2 (.slice v'.hc.am 2 v'.hc.cm)) 3 (.int .i64 (h.aF : Int))) 4 (.slice v'.hc.al v'.hc.lc.length v'.hc.cl)) 5 (.slice v'.hc.av h.live.length v'.hc.cv)) 6 (.slice v'.a2 v'.ys.length v'.c2))
   simp only [gE, gG, gH] at KX
   have hX8 : (fun k => k < w.heap.size + 2) (w.heap.size + 1) := by show w.heap.size + 1 < w.heap.size + 2; omega
   have A0 := kL.out
   have A1 := A0.dQ hX8 0 (.slice v'.a1 v'.n1 v'.c1)
   have A2 := A1.dQ hX8 1 (.slice v'.hc.az 2 v'.hc.cz)
   have A3 := A2.dQ hX8 2 (.slice v'.hc.am 2 v'.hc.cm)
   have A4 := A3.dQ hX8 3 (.int .i64 (h.aF : Int))
   have A5 := A4.dQ hX8 4 (.slice v'.hc.al v'.hc.lc.length v'.hc.cl)
   have A6 := A5.dQ hX8 5 (.slice v'.hc.av h.live.length v'.hc.cv)
   have A7 := A6.dQ hX8 6 (.slice v'.a2 v'.ys.length v'.c2)
   have SE := kL.out.r.hr.xg
   have pI := gO A7
   have kK := gO (Below.setCell (Below.setCell (Below.setCell (Below.setCell (Below.setCell (Below.setCell (Below.setCell lY.out (show w.heap.size ≤ (⟨w.heap.size + 1, 0, none⟩ : Addr).block from hle2) (.slice v'.a1 v'.n1 v'.c1)) (show w.heap.size ≤ (⟨w.heap.size + 1, 1, none⟩ : Addr).block from hle2) (.slice v'.hc.az 2 v'.hc.cz)) (show w.heap.size ≤ (⟨w.heap.size + 1, 2, none⟩ : Addr).block from hle2) (.slice v'.hc.am 2 v'.hc.cm)) (show w.heap.size ≤ (⟨w.heap.size + 1, 3, none⟩ : Addr).block from hle2) (.int .i64 (h.aF : Int))) (show w.heap.size ≤ (⟨w.heap.size + 1, 4, none⟩ : Addr).block from hle2) (.slice v'.hc.al v'.hc.lc.length v'.hc.cl)) (show w.heap.size ≤ (⟨w.heap.size + 1, 5, none⟩ : Addr).block from hle2) (.slice v'.hc.av h.live.length v'.hc.cv)) (show w.heap.size ≤ (⟨w.heap.size + 1, 6, none⟩ : Addr).block from hle2) (.slice v'.a2 v'.ys.length v'.c2))
   have hwX : w.heap.size < wr.heap.size := Nat.lt_of_succ_lt (kL.out.r.hr.xs (w.heap.size + 1) (by show w.heap.size + 1 < w.heap.size + 2; omega))
   clear A0 A1 A2 A3 A4 A5 A6 A7 hX8 SE kL HRj JQ lY
   go_wp2_with fail
   generalize ((((((wr.setCell ⟨w.heap.size + 1, 0, none⟩ (.slice v'.a1 v'.n1 v'.c1)).setCell ⟨w.heap.size + 1, 1, none⟩ (.slice v'.hc.az 2 v'.hc.cz)).setCell ⟨w.heap.size + 1, 2, none⟩ (.slice v'.hc.am 2 v'.hc.cm)).setCell ⟨w.heap.size + 1, 3, none⟩ (.int .i64 (h.aF : Int))).setCell ⟨w.heap.size + 1, 4, none⟩ (.slice v'.hc.al v'.hc.lc.length v'.hc.cl)).setCell ⟨w.heap.size + 1, 5, none⟩ (.slice v'.hc.av h.live.length v'.hc.cv)).setCell ⟨w.heap.size + 1, 6, none⟩ (.slice v'.a2 v'.ys.length v'.c2) = wx at *
   refine bodyPost_ret (v := .tuple #[.agg (v'.vals (fA h 6)), .int .i64 0]) (by unfold Sc.vals fA; simp [results, Tryz.results27, go_sem, KX]) rfl ⟨v', rfl, pI.out.r.toX (by show w.heap.size < w.heap.size + 2; omega) (fun k hk => by show k < w.heap.size + 2; omega) (Nat.lt_irrefl _), kK.out⟩
end
section
open Go.RowKit

theorem own : ownKnob Tryz.prog.godebug = none := by kernel_rfl
theorem aCh : Tryz.prog.globalNamed "paddock/buddy.others" = some 1 := by kernel_rfl
theorem TQ : (Tryz.prog.globals[1]?).map (·.type) = some 251 := by kernel_rfl
theorem gSz : Tryz.prog.globalNamed "paddock/kmem.sizes" = some 0 := by kernel_rfl
theorem VJ : (Tryz.prog.globals[0]?).map (·.type) = some 117 := by kernel_rfl
theorem cellsT3 : Tryz.prog.cellsOf 251 = 6 := by kernel_rfl
theorem cellsT2 : Tryz.prog.cellsOf 250 = 2 := by kernel_rfl
theorem cellsT6 : Tryz.prog.cellsOf 117 = 6 := by kernel_rfl
theorem IE : Tryz.prog.cellsOf 3 = 1 := by kernel_rfl

theorem BM {H : Type} {enc : TypeId × Value → H} {P : Program} {w : World} {base : Nat} {sp : Nat → Bool} {held : Bool} {fuel : Nat} {t e f : TypeId} {n m : Nat} {k : IntKind} {cs : List Value} {zss : List (List Int)} {p : List MemPlace}
  (ht : P.underlying t = some (.array n e)) (he : P.underlying e = some (.array m f)) (hf : P.underlying f = some (.int k)) (hcf : P.cellsOf f = 1) (hce : P.cellsOf e = m) (hct : P.cellsOf t = n * m)
  (h : DataW.trod enc P w base sp held fuel t cs = some (.agg (zss.map fun zs => Lib.tabData k zs), p)) : ∀ i, i < n → ∃ zs, zss[i]? = some zs ∧ (cs.drop (i * m)).take m = zs.map fun z => Value.int k z := by
 cases fuel with
 | zero => simp [DataW.trod] at h
 | succ fuel =>
  simp only [DataW.trod, ht, hce, hct] at h
  split at h
  ·rename_i hl
   obtain ⟨xs, hm, hx⟩ := Option.map_eq_some_iff.1 h
   have hxs : xs.map (·.1) = zss.map fun zs => (Lib.tabData k zs : DataW H) := by
    have := congrArg Prod.fst hx
    simpa using this
   intro i hi
   obtain ⟨b, hb, hfi⟩ := Lib.mapM_at hm i i (by simp [hi])
   have h2 : (xs.map (·.1))[i]? = some b.1 := by simp [hb]
   rw [hxs] at h2
   simp only [List.getElem?_map, Option.map_eq_some_iff] at h2
   obtain ⟨zs, hz1, hz2⟩ := h2
   obtain ⟨b1, b2⟩ := b
   simp only at hz2
   subst hz2
   exact ⟨zs, hz1, Lib.cells_of_tab he hf hcf hce hfi⟩
  ·cases h

theorem IG {W : World} (h : laidMetH Tryz.prog [("math/bits.deBruijn32tab", Rows.laid_math_bits_deBruijn32tab), ("math/bits.deBruijn64tab", Rows.laid_math_bits_deBruijn64tab), ("internal/strconv.uint64pow10", Rows.laid_internal_strconv_uint64pow10), ("paddock/buddy.others", Rows.laid_paddock_buddy_others), ("paddock/kmem.sizes", Rows.laid_paddock_kmem_sizes)] W) : yK W := by
 obtain ⟨ps, ⟨_, _, _, _, _, _, _, _, _, _, ⟨_, _, _, _, _, _, _, _, _, _, ⟨_, _, _, _, _, _, _, _, _, _, ⟨g', t', cs, fuel, p, q, hg', ht', hvar, hd, _, _⟩, _⟩, _⟩, _⟩, _⟩ := h
 obtain rfl := gP (aCh.symm.trans hg')
 obtain rfl := gP (TQ.symm.trans ht')
 have hT := BM (zss := [[2, 1], [2, 0], [0, 1]]) Tryz.underlying251 Tryz.underlying250 Tryz.underlying3 IE cellsT2 cellsT3 hd
 have hc : ∀ i v, cs[i]? = some v → W.cell? ⟨1, i, none⟩ = some v := fun i v hv => (World.var?_cell aCh hvar i).trans hv
 obtain ⟨z0, h0, e0⟩ := hT 0 (by decide)
 obtain ⟨z1, h1, e1⟩ := hT 1 (by decide)
 obtain ⟨z2, h2, e2⟩ := hT 2 (by decide)
 simp only [gC, gD, Option.some.injEq] at h0 h1 h2
 subst h0 h1 h2
 have key : ∀ (l : List Value) (a b : Nat) (x y : Value), (l.drop a).take 2 = [x, y] → l[a]? = some x ∧ l[a + 1]? = some y := by
  intro l a b x y h
  have g0 := congrArg (·[0]?) h
  have g1 := congrArg (·[1]?) h
  simp [List.getElem?_drop] at g0 g1
  exact ⟨g0, g1⟩
 obtain ⟨a0, a1⟩ := key cs.toList 0 0 _ _ e0
 obtain ⟨a2, a3⟩ := key cs.toList 2 0 _ _ e1
 obtain ⟨a4, a5⟩ := key cs.toList 4 0 _ _ e2
 rw [Array.getElem?_toList] at a0 a1 a2 a3 a4 a5
 have hc0 := hc 0 _ a0
 refine ⟨by have := World.block_lt_of_cell? W _ hc0; exact this, fun i v hv => ?_⟩
 rcases i with _ | _ | _ | _ | _ | _ | i
 ·simp at hv; subst hv; exact hc0
 ·simp at hv; subst hv; exact hc 1 _ a1
 ·simp at hv; subst hv; exact hc 2 _ a2
 ·simp at hv; subst hv; exact hc 3 _ a3
 ·simp at hv; subst hv; exact hc 4 _ a4
 ·simp at hv; subst hv; exact hc 5 _ a5
 ·simp at hv

theorem II {W : World} (h : laidMetH Tryz.prog [("math/bits.deBruijn32tab", Rows.laid_math_bits_deBruijn32tab), ("math/bits.deBruijn64tab", Rows.laid_math_bits_deBruijn64tab), ("internal/strconv.uint64pow10", Rows.laid_internal_strconv_uint64pow10), ("paddock/buddy.others", Rows.laid_paddock_buddy_others), ("paddock/kmem.sizes", Rows.laid_paddock_kmem_sizes)] W) : Yr W := by
 obtain ⟨ps, ⟨_, _, _, _, _, _, _, _, _, _, ⟨_, _, _, _, _, _, _, _, _, _, ⟨_, _, _, _, _, _, _, _, _, _, ⟨_, _, _, _, _, _, _, _, _, _, ⟨g', t', cs, fuel, p, q, hg', ht', hvar, hd, _, _⟩, _⟩, _⟩, _⟩, _⟩, _⟩ := h
 obtain rfl := gP (gSz.symm.trans hg')
 obtain rfl := gP (VJ.symm.trans ht')
 have hT := Lib.cells_of_tab (zs := [1, 2, 4, 8, 16, 32]) Tryz.underlying117 Tryz.underlying3 IE cellsT6 hd
 have hc : ∀ i v, cs[i]? = some v → W.cell? ⟨0, i, none⟩ = some v := fun i v hv => (World.var?_cell gSz hvar i).trans hv
 have he : ∀ i : Nat, cs[i]? = ([1, 2, 4, 8, 16, 32].map fun z => Value.int .i64 z)[i]? := fun i => by rw [← Array.getElem?_toList, hT]
 have hc0 := hc 0 (.int .i64 1) (by rw [he]; rfl)
 refine ⟨World.block_lt_of_cell? W _ hc0, fun i v hv => hc i v ?_⟩
 rw [he, ← hv]
 rcases i with _ | _ | _ | _ | _ | _ | i
 all_goals rfl

def putCells (a : Array Value) : Obj → Obj
 | .cells _ t frozen => .cells a t frozen
 | o => o
noncomputable def laidWorld (os : Os) : World :=
 { World.holding Tryz.prog os ⟨#[], #[], []⟩ with heap := ((((((World.holding Tryz.prog os ⟨#[], #[], []⟩).heap.modify 0 (putCells #[.int .i64 1, .int .i64 2, .int .i64 4, .int .i64 8, .int .i64 16, .int .i64 32])).modify 1 (putCells #[.int .i64 2, .int .i64 1, .int .i64 2, .int .i64 0, .int .i64 0, .int .i64 1])).modify 2 (putCells #[.int .u64 1, .int .u64 10, .int .u64 100, .int .u64 1000, .int .u64 10000, .int .u64 100000, .int .u64 1000000, .int .u64 10000000, .int .u64 100000000, .int .u64 1000000000, .int .u64 10000000000, .int .u64 100000000000, .int .u64 1000000000000, .int .u64 10000000000000, .int .u64 100000000000000, .int .u64 1000000000000000, .int .u64 10000000000000000, .int .u64 100000000000000000, .int .u64 1000000000000000000, .int .u64 10000000000000000000])).modify 3 (putCells #[.int .u8 0, .int .u8 1, .int .u8 28, .int .u8 2, .int .u8 29, .int .u8 14, .int .u8 24, .int .u8 3, .int .u8 30, .int .u8 22, .int .u8 20, .int .u8 15, .int .u8 25, .int .u8 17, .int .u8 4, .int .u8 8, .int .u8 31, .int .u8 27, .int .u8 13, .int .u8 23, .int .u8 21, .int .u8 19, .int .u8 16, .int .u8 7, .int .u8 26, .int .u8 12, .int .u8 18, .int .u8 6, .int .u8 11, .int .u8 5, .int .u8 10, .int .u8 9])).modify 4 (putCells #[.int .u8 0, .int .u8 1, .int .u8 56, .int .u8 2, .int .u8 57, .int .u8 49, .int .u8 28, .int .u8 3, .int .u8 61, .int .u8 58, .int .u8 42, .int .u8 50, .int .u8 38, .int .u8 29, .int .u8 17, .int .u8 4, .int .u8 62, .int .u8 47, .int .u8 59, .int .u8 36, .int .u8 45, .int .u8 43, .int .u8 51, .int .u8 22, .int .u8 53, .int .u8 39, .int .u8 33, .int .u8 30, .int .u8 24, .int .u8 18, .int .u8 12, .int .u8 5, .int .u8 63, .int .u8 55, .int .u8 48, .int .u8 27, .int .u8 60, .int .u8 41, .int .u8 37, .int .u8 16, .int .u8 46, .int .u8 35, .int .u8 44, .int .u8 21, .int .u8 52, .int .u8 32, .int .u8 23, .int .u8 11, .int .u8 54, .int .u8 26, .int .u8 40, .int .u8 15, .int .u8 34, .int .u8 20, .int .u8 31, .int .u8 10, .int .u8 25, .int .u8 14, .int .u8 19, .int .u8 9, .int .u8 13, .int .u8 8, .int .u8 7, .int .u8 6])) }
end
end Go.Proofs.YtcmpmobhongkiaaGreatDoor
