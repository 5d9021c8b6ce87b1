/- BulkAllWalk: texts of this claim, joined. -/
import Derived.Test.YtkcaheebaicinaaGreatDoorSN2
import Derived.Test.YtkcaheebaicinaaGreatDoorSN35
import Derived.Test.YtkcaheebaicinaaGreatDoorSN48
import Derived.Test.YtkcaheebaicinaaGreatDoorSN50
import Derived.WalkKit
import Derived.OpenShut
import Derived.ProofKit
/- The walk of paddockkeep.BulkAll. -/
namespace Go.Proofs.YtkcaheebaicinaaGreatDoor
open Go.RowKit
set_option linter.unusedVariables false
set_option linter.unusedSimpArgs false

set_option maxHeartbeats 8000000 in
set_option maxRecDepth 100000 in
theorem bulkAll_go (a0 a1 : Int) (h01 : -9223372036854775808 ≤ a0) (h02 : a0 ≤ 9223372036854775807) (h11 : -9223372036854775808 ≤ a1) (h12 : a1 ≤ 9223372036854775807) (w : World) (ho : Oth w) (hsz : Szs w) :
    Calls Tryz.prog 3 #[.int .i64 a0, .int .i64 a1] w fun ev w' => ev = .returned (.bool true) ∧ Below w.heap.size w w' := by
  obtain ⟨n, hn⟩ : ∃ n : Nat, 1 + pk a1 12 = (n : Int) := ⟨(1 + pk a1 12).toNat, by have := pk_nonneg a1 12 (by omega); omega⟩
  obtain ⟨k, hk⟩ : ∃ k : Nat, 1 + pk a0 60 = (k : Int) := ⟨(1 + pk a0 60).toNat, by have := pk_nonneg a0 60 (by omega); omega⟩
  have hn1 : 1 ≤ n ∧ n ≤ 12 := by
    have := pk_nonneg a1 12 (by omega)
    have := pk_lt a1 12 (by omega)
    omega
  have hk1 : 1 ≤ k ∧ k ≤ 60 := by
    have := pk_nonneg a0 60 (by omega)
    have := pk_lt a0 60 (by omega)
    omega
  have HP1 : Hid (∀ W, Calls Tryz.prog 7 #[.int .i64 a1, .int .i64 12] W fun e w' => e = .returned (.int .i64 ((n : Int) - 1)) ∧ W = w') := fun W => by
    have h := picked_any a1 12 W h11 h12 (by omega) (by omega)
    rw [show pk a1 12 = (n : Int) - 1 by omega] at h
    exact h
  have HP0 : Hid (∀ W, Calls Tryz.prog 7 #[.int .i64 a0, .int .i64 60] W fun e w' => e = .returned (.int .i64 ((k : Int) - 1)) ∧ W = w') := fun W => by
    have h := picked_any a0 60 W h01 h02 (by omega) (by omega)
    rw [show pk a0 60 = (k : Int) - 1 by omega] at h
    exact h
  have e1 : (1 : Int) + ((n : Int) - 1) = n := by omega
  have e2 : (1 : Int) + ((k : Int) - 1) = k := by omega
  obtain ⟨m, hm⟩ : ∃ m, n = m + 1 := ⟨n - 1, by omega⟩
  have hmr : m ∈ List.range 12 := List.mem_range.2 (by omega)
  obtain ⟨hlm, hfr⟩ := btN_ok m hmr
  rw [← hm] at hlm hfr
  obtain ⟨hlaw1, hlaw2⟩ := bulk_law (k := k) hn1.1 hn1.2
  obtain ⟨hk0, _⟩ := newH_ok hfr (split := 16) (least := 0) (cpus := 1) (by decide) (by decide) (by decide) (by decide)
  have bA := below_alloc w (.cells #[.int .i64 0, .int .i64 (n : Int)] 24)
  have bB := below_alloc (w.alloc (.cells #[.int .i64 0, .int .i64 (n : Int)] 24)) (.cells #[.slice (some ⟨w.heap.size, 0, none⟩) 1 1, .slice none 0 0, .int .i64 16, .int .i64 0, .int .i64 1] 29)
  have bAB := Below.step bA bB
  have KS := box_new (w.alloc (.cells #[.int .i64 0, .int .i64 (n : Int)] 24)) #[.slice (some ⟨w.heap.size, 0, none⟩) 1 1, .slice none 0 0, .int .i64 16, .int .i64 0, .int .i64 1] 29
  have hsA : (w.alloc (.cells #[.int .i64 0, .int .i64 (n : Int)] 24)).heap.size = w.heap.size + 1 := by simp
  rw [hsA] at KS
  have hKR := box_new w #[.int .i64 0, .int .i64 (n : Int)] 24
  have hbt : BtAt ((w.alloc (.cells #[.int .i64 0, .int .i64 (n : Int)] 24)).alloc (.cells #[.slice (some ⟨w.heap.size, 0, none⟩) 1 1, .slice none 0 0, .int .i64 16, .int .i64 0, .int .i64 1] 29)) (some ⟨w.heap.size, 0, none⟩) none 1 0 (btN n) := by
    refine ⟨rfl, rfl, ?_, Row.nil _ _⟩
    refine Row.below (w := w.alloc (.cells #[.int .i64 0, .int .i64 (n : Int)] 24)) (fun j v hj => ?_) bB
    match j, hj with
    | 0, hj =>
      obtain rfl : vI 0 = v := by simpa [btN, flat, encRg] using hj
      exact ⟨w.heap.size, 0, rfl, by simp, hKR 0⟩
    | 1, hj =>
      obtain rfl : vI (n : Int) = v := by simpa [btN, flat, encRg] using hj
      exact ⟨w.heap.size, 0, rfl, by simp, hKR 1⟩
    | j + 2, hj => simp [btN, flat, encRg] at hj
  have HNEW := Hid.mk (newK_ok (some ⟨w.heap.size, 0, none⟩) none 1 0 1 0 (btN n) 16 0 1 _ hbt hlm rfl hfr (by decide) (by decide) (by decide) (by decide) (hsz.below bAB))
  have s0 := KS 0
  have s1 := KS 1
  have s2 := KS 2
  have s3 := KS 3
  have s4 := KS 4
  simp only [List.getElem?_toArray, List.getElem?_cons_zero, List.getElem?_cons_succ] at s0 s1 s2 s3 s4
  have HBA := Hid.mk bAB
  have HO := Hid.mk ho
  have HL1 := Hid.mk hlaw1
  have HL2 := Hid.mk hlaw2
  have HK0 := Hid.mk hk0
  have hsz2 : ((w.alloc (.cells #[.int .i64 0, .int .i64 (n : Int)] 24)).alloc (.cells #[.slice (some ⟨w.heap.size, 0, none⟩) 1 1, .slice none 0 0, .int .i64 16, .int .i64 0, .int .i64 1] 29)).heap.size = w.heap.size + 2 := by simp
  clear bA bB bAB KS hsA hKR hbt hlm hfr hlaw1 hlaw2 hk0 ho hsz hn hk hm hmr
  generalize hh : newH (freeOf (btN n)) 16 0 1 = h at *
  have hcp : h.cpus = 1 := by rw [← hh]; rfl
  clear hh
  have HCPU := Hid.mk hcp
  clear hcp
  go_enter Tryz.func3, Tryz.ntmps3
  go_upto_region 3 with (go_at_call 7; refine (HP1.out _).mono ?_; rintro ev w' ⟨rfl, rfl⟩)
  generalize (w.alloc (.cells #[.int .i64 0, .int .i64 (n : Int)] 24)).alloc (.cells #[.slice (some ⟨w.heap.size, 0, none⟩) 1 1, .slice none 0 0, .int .i64 16, .int .i64 0, .int .i64 1] 29) = w2 at *
  go_upto_region 4 with (go_at_call 8; refine HNEW.out.mono ?_; rintro ev w3 ⟨v1, he, hn3, hb3⟩; (replace he : ev = .returned (.tuple #[.agg #[.slice v1.a1 v1.n1 v1.c1, .slice v1.hc.az 2 v1.hc.cz, .slice v1.hc.am 2 v1.hc.cm, .int .i64 (h.cpus : Int), .slice v1.hc.al v1.hc.lc.length v1.hc.cl, .slice v1.hc.av h.live.length v1.hc.cv, .slice v1.a2 v1.ys.length v1.c2], .int .i64 0]) := he); subst he)
  have b4 := below_alloc w3 (.cells #[.slice v1.a1 v1.n1 v1.c1, .slice v1.hc.az 2 v1.hc.cz, .slice v1.hc.am 2 v1.hc.cm, .int .i64 (h.cpus : Int), .slice v1.hc.al v1.hc.lc.length v1.hc.cl, .slice v1.hc.av h.live.length v1.hc.cv, .slice v1.a2 v1.ys.length v1.c2] 38)
  have K4 := box_new w3 #[.slice v1.a1 v1.n1 v1.c1, .slice v1.hc.az 2 v1.hc.cz, .slice v1.hc.am 2 v1.hc.cm, .int .i64 (h.cpus : Int), .slice v1.hc.al v1.hc.lc.length v1.hc.cl, .slice v1.hc.av h.live.length v1.hc.cv, .slice v1.a2 v1.ys.length v1.c2] 38
  have F4 := box_frz w3 #[.slice v1.a1 v1.n1 v1.c1, .slice v1.hc.az 2 v1.hc.cz, .slice v1.hc.am 2 v1.hc.cm, .int .i64 (h.cpus : Int), .slice v1.hc.al v1.hc.lc.length v1.hc.cl, .slice v1.hc.av h.live.length v1.hc.cv, .slice v1.a2 v1.ys.length v1.c2] 38
  have hs4 : w3.heap.size < (w3.alloc (.cells #[.slice v1.a1 v1.n1 v1.c1, .slice v1.hc.az 2 v1.hc.cz, .slice v1.hc.am 2 v1.hc.cm, .int .i64 (h.cpus : Int), .slice v1.hc.al v1.hc.lc.length v1.hc.cl, .slice v1.hc.av h.live.length v1.hc.cv, .slice v1.a2 v1.ys.length v1.c2] 38)).heap.size := by simp
  have k0 := K4 0
  have k1 := K4 1
  have k2 := K4 2
  have k3 := K4 3
  have k4 := K4 4
  have k5 := K4 5
  have k6 := K4 6
  simp only [List.getElem?_toArray, List.getElem?_cons_zero, List.getElem?_cons_succ] at k0 k1 k2 k3 k4 k5 k6
  have HCR : Hid (Calls Tryz.prog 9 #[.agg #[.slice v1.a1 v1.n1 v1.c1, .slice v1.hc.az 2 v1.hc.cz, .slice v1.hc.am 2 v1.hc.cm, .int .i64 (h.cpus : Int), .slice v1.hc.al v1.hc.lc.length v1.hc.cl, .slice v1.hc.av h.live.length v1.hc.cv, .slice v1.a2 v1.ys.length v1.c2], .string ⟨#[120, 97]⟩, .int .i64 4, .int .i64 1] (w3.alloc (.cells #[.slice v1.a1 v1.n1 v1.c1, .slice v1.hc.az 2 v1.hc.cz, .slice v1.hc.am 2 v1.hc.cm, .int .i64 (h.cpus : Int), .slice v1.hc.al v1.hc.lc.length v1.hc.cl, .slice v1.hc.av h.live.length v1.hc.cv, .slice v1.a2 v1.ys.length v1.c2] 38)) fun ev w' => ∃ v2, ev = .returned (.tuple #[.agg #[.slice v2.a1 v2.n1 v2.c1, .slice v2.hc.az 2 v2.hc.cz, .slice v2.hc.am 2 v2.hc.cm, .int .i64 (h.cpus : Int), .slice v2.hc.al v2.hc.lc.length v2.hc.cl, .slice v2.hc.av h.live.length v2.hc.cv, .slice v2.a2 v2.ys.length v2.c2], .int .i64 0]) ∧ SNew w' (w3.alloc (.cells #[.slice v1.a1 v1.n1 v1.c1, .slice v1.hc.az 2 v1.hc.cz, .slice v1.hc.am 2 v1.hc.cm, .int .i64 (h.cpus : Int), .slice v1.hc.al v1.hc.lc.length v1.hc.cl, .slice v1.hc.av h.live.length v1.hc.cv, .slice v1.a2 v1.ys.length v1.c2] 38)).heap.size (xaSy h) v2 ∧ Below (w3.alloc (.cells #[.slice v1.a1 v1.n1 v1.c1, .slice v1.hc.az 2 v1.hc.cz, .slice v1.hc.am 2 v1.hc.cm, .int .i64 (h.cpus : Int), .slice v1.hc.al v1.hc.lc.length v1.hc.cl, .slice v1.hc.av h.live.length v1.hc.cv, .slice v1.a2 v1.ys.length v1.c2] 38)).heap.size (w3.alloc (.cells #[.slice v1.a1 v1.n1 v1.c1, .slice v1.hc.az 2 v1.hc.cz, .slice v1.hc.am 2 v1.hc.cm, .int .i64 (h.cpus : Int), .slice v1.hc.al v1.hc.lc.length v1.hc.cl, .slice v1.hc.av h.live.length v1.hc.cv, .slice v1.a2 v1.ys.length v1.c2] 38)) w') :=
    createS_ok v1 (newSy h 6) (xaSy h) [120, 97] 4 _ ((SR.at hn3).below b4) (newSy_all HK0.out 6 (Nat.le_refl _)) (newSy_names h 6) (by decide) (by decide) (xaSy_none h) (xaSy_create h)
  have hB7 : w.heap.size ≤ w3.heap.size := Nat.le_trans HBA.out.size hb3.size
  have HB4 := Hid.mk (HBA.out.trans ((Below.step hb3 b4).mono (by have := HBA.out.size; exact this)))
  have HK4 := Hid.mk K4
  have HF4 := Hid.mk F4
  clear s0 s1 s2 s3 s4 K4 F4 b4 hn3 hb3 HNEW
  go_upto_region 7 with (first | (go_at_call 9; refine HCR.out.mono ?_; rintro ev w5 ⟨v2, rfl, hn5, hb5⟩; have K5 := box_step HK4.out hs4 hb5; have F5 := frz_step HF4.out hs4 hb5; have y0 := K5 0; have y1 := K5 1; have y2 := K5 2; have y3 := K5 3; have y4 := K5 4; have y5 := K5 5; have y6 := K5 6; have f0 := F5 0; have f1 := F5 1; have f2 := F5 2; have f3 := F5 3; have f4 := F5 4; have f5 := F5 5; have f6 := F5 6; simp only [List.getElem?_toArray, List.getElem?_cons_zero, List.getElem?_cons_succ] at y0 y1 y2 y3 y4 y5 y6; have HK5 := Hid.mk K5; have HF5 := Hid.mk F5; clear K5 F5) | (go_at_call 7; refine (HP0.out _).mono ?_; rintro ev w' ⟨rfl, rfl⟩))
  have hX7 : (fun q => q < (w3.alloc (.cells #[.slice v1.a1 v1.n1 v1.c1, .slice v1.hc.az 2 v1.hc.cz, .slice v1.hc.am 2 v1.hc.cm, .int .i64 (h.cpus : Int), .slice v1.hc.al v1.hc.lc.length v1.hc.cl, .slice v1.hc.av h.live.length v1.hc.cv, .slice v1.a2 v1.ys.length v1.c2] 38)).heap.size) w3.heap.size := hs4
  have A0 : SR w5 (w3.alloc (.cells #[.slice v1.a1 v1.n1 v1.c1, .slice v1.hc.az 2 v1.hc.cz, .slice v1.hc.am 2 v1.hc.cm, .int .i64 (h.cpus : Int), .slice v1.hc.al v1.hc.lc.length v1.hc.cl, .slice v1.hc.av h.live.length v1.hc.cv, .slice v1.a2 v1.ys.length v1.c2] 38)).heap.size (fun q => q < (w3.alloc (.cells #[.slice v1.a1 v1.n1 v1.c1, .slice v1.hc.az 2 v1.hc.cz, .slice v1.hc.am 2 v1.hc.cm, .int .i64 (h.cpus : Int), .slice v1.hc.al v1.hc.lc.length v1.hc.cl, .slice v1.hc.av h.live.length v1.hc.cv, .slice v1.a2 v1.ys.length v1.c2] 38)).heap.size) (xaSy h) v2 := hn5
  have A1 := A0.farX hX7 0 (.slice v2.a1 v2.n1 v2.c1)
  have A2 := A1.farX hX7 1 (.slice v2.hc.az 2 v2.hc.cz)
  have A3 := A2.farX hX7 2 (.slice v2.hc.am 2 v2.hc.cm)
  have A4 := A3.farX hX7 3 (.int .i64 (h.cpus : Int))
  have A5 := A4.farX hX7 4 (.slice v2.hc.al v2.hc.lc.length v2.hc.cl)
  have A6 := A5.farX hX7 5 (.slice v2.hc.av h.live.length v2.hc.cv)
  have A7 := A6.farX hX7 6 (.slice v2.a2 v2.ys.length v2.c2)
  have HAT := Hid.mk A7.at
  have HB5 := HB4.out.trans (hb5.mono (Nat.le_trans hB7 (Nat.le_of_lt hs4)))
  have HBX := Hid.mk (Below.setCell (Below.setCell (Below.setCell (Below.setCell (Below.setCell (Below.setCell (Below.setCell HB5 (show w.heap.size ≤ (⟨w3.heap.size, 0, none⟩ : Addr).block from hB7) (.slice v2.a1 v2.n1 v2.c1)) (show w.heap.size ≤ (⟨w3.heap.size, 1, none⟩ : Addr).block from hB7) (.slice v2.hc.az 2 v2.hc.cz)) (show w.heap.size ≤ (⟨w3.heap.size, 2, none⟩ : Addr).block from hB7) (.slice v2.hc.am 2 v2.hc.cm)) (show w.heap.size ≤ (⟨w3.heap.size, 3, none⟩ : Addr).block from hB7) (.int .i64 (h.cpus : Int))) (show w.heap.size ≤ (⟨w3.heap.size, 4, none⟩ : Addr).block from hB7) (.slice v2.hc.al v2.hc.lc.length v2.hc.cl)) (show w.heap.size ≤ (⟨w3.heap.size, 5, none⟩ : Addr).block from hB7) (.slice v2.hc.av h.live.length v2.hc.cv)) (show w.heap.size ≤ (⟨w3.heap.size, 6, none⟩ : Addr).block from hB7) (.slice v2.a2 v2.ys.length v2.c2))
  have KX := (box_set (box_set (box_set (box_set (box_set (box_set (box_set HK5.out 0 (.slice v2.a1 v2.n1 v2.c1)) 1 (.slice v2.hc.az 2 v2.hc.cz)) 2 (.slice v2.hc.am 2 v2.hc.cm)) 3 (.int .i64 (h.cpus : Int))) 4 (.slice v2.hc.al v2.hc.lc.length v2.hc.cl)) 5 (.slice v2.hc.av h.live.length v2.hc.cv)) 6 (.slice v2.a2 v2.ys.length v2.c2))
  simp only [List.setIfInBounds_toArray, List.set_cons_zero, List.set_cons_succ] at KX
  have k0' := KX 0
  have k1' := KX 1
  have k2' := KX 2
  have k3' := KX 3
  have k4' := KX 4
  have k5' := KX 5
  have k6' := KX 6
  simp only [List.getElem?_toArray, List.getElem?_cons_zero, List.getElem?_cons_succ] at k0' k1' k2' k3' k4' k5' k6'
  clear A0 A1 A2 A3 A4 A5 A6 A7 hX7 HB5 KX HK5 HF5 y0 y1 y2 y3 y4 y5 y6 f0 f1 f2 f3 f4 f5 f6 hn5 hb5 HCR HK4 HF4 k0 k1 k2 k3 k4 k5 k6 HB4
  generalize ((((((w5.setCell ⟨w3.heap.size, 0, none⟩ (.slice v2.a1 v2.n1 v2.c1)).setCell ⟨w3.heap.size, 1, none⟩ (.slice v2.hc.az 2 v2.hc.cz)).setCell ⟨w3.heap.size, 2, none⟩ (.slice v2.hc.am 2 v2.hc.cm)).setCell ⟨w3.heap.size, 3, none⟩ (.int .i64 (h.cpus : Int))).setCell ⟨w3.heap.size, 4, none⟩ (.slice v2.hc.al v2.hc.lc.length v2.hc.cl)).setCell ⟨w3.heap.size, 5, none⟩ (.slice v2.hc.av h.live.length v2.hc.cv)).setCell ⟨w3.heap.size, 6, none⟩ (.slice v2.a2 v2.ys.length v2.c2) = w6 at *
  have hBK := bulkS_ok v2 (xaSy h) [120, 97] 0 2 k w6 HAT.out (xaSy_ok HK0.out) (xaSy_names h) (xaSy_named h) (show 0 < h.cpus by rw [HCPU.out]; omega) hk1.1 (by omega) (HO.out.below HBX.out)
  by_cases hle : k ≤ 4 * (n - 7)
  · obtain ⟨t, l, hb, hkt, hl⟩ := HL1.out hle
    have HBK : Hid (Calls Tryz.prog 10 #[.agg #[.slice v2.a1 v2.n1 v2.c1, .slice v2.hc.az 2 v2.hc.cz, .slice v2.hc.am 2 v2.hc.cm, .int .i64 (h.cpus : Int), .slice v2.hc.al v2.hc.lc.length v2.hc.cl, .slice v2.hc.av h.live.length v2.hc.cv, .slice v2.a2 v2.ys.length v2.c2], .string ⟨#[120, 97]⟩, .int .i64 0, .int .i64 k] w6 fun ev w' => ∃ v3 a' c', ev = .returned (.tuple #[.agg #[.slice v3.a1 v3.n1 v3.c1, .slice v3.hc.az 2 v3.hc.cz, .slice v3.hc.am 2 v3.hc.cm, .int .i64 (t.h.cpus : Int), .slice v3.hc.al v3.hc.lc.length v3.hc.cl, .slice v3.hc.av t.h.live.length v3.hc.cv, .slice v3.a2 v3.ys.length v3.c2], .slice a' k c', .int .i64 0]) ∧ SNew w' w6.heap.size t v3 ∧ Below w6.heap.size w6 w') := by
      refine hBK.mono ?_
      rintro ev w' (⟨h9, _⟩ | ⟨t', l', v3, a', c', h9, h10, h11', _, _, h12'⟩)
      · rw [hb] at h9
        cases h9
      · rw [hb] at h9
        obtain ⟨rfl, rfl⟩ : t = t' ∧ l = l' := by simpa using h9
        exact ⟨v3, a', c', h10, h11', h12'⟩
    have HNM := Hid.mk (names_of_nss (bulk_nss hb) (xaSy_names h))
    have HKT := Hid.mk hkt
    have hLL : (if (7 : Int) < n then (n : Int) - 7 else 0) = ((n - 7 : Nat) : Int) := by split <;> omega
    have hmx : ¬ (4 * ((n - 7 : Nat) : Int) < k) := by omega
    have hq9 : n - 7 ≤ 5 := by omega
    clear hBK hb hkt HL1 HL2
    go_upto_region 8 with (go_at_call 10; refine HBK.out.mono ?_; rintro ev w7 ⟨v3, a', c', rfl, hn7, hb7⟩)
    try rw [hLL]
    clear hLL hle
    generalize n - 7 = q at *
    have b8 := below_alloc w7 (.cells #[.slice v3.a1 v3.n1 v3.c1, .slice v3.hc.az 2 v3.hc.cz, .slice v3.hc.am 2 v3.hc.cm, .int .i64 (t.h.cpus : Int), .slice v3.hc.al v3.hc.lc.length v3.hc.cl, .slice v3.hc.av t.h.live.length v3.hc.cv, .slice v3.a2 v3.ys.length v3.c2] 38)
    have K8 := box_new w7 #[.slice v3.a1 v3.n1 v3.c1, .slice v3.hc.az 2 v3.hc.cz, .slice v3.hc.am 2 v3.hc.cm, .int .i64 (t.h.cpus : Int), .slice v3.hc.al v3.hc.lc.length v3.hc.cl, .slice v3.hc.av t.h.live.length v3.hc.cv, .slice v3.a2 v3.ys.length v3.c2] 38
    have x0 := K8 0
    have x1 := K8 1
    have x2 := K8 2
    have x3 := K8 3
    have x4 := K8 4
    have x5 := K8 5
    have x6 := K8 6
    simp only [List.getElem?_toArray, List.getElem?_cons_zero, List.getElem?_cons_succ] at x0 x1 x2 x3 x4 x5 x6
    have HCK := Hid.mk (checkS_ok v3 t (w7.alloc (.cells #[.slice v3.a1 v3.n1 v3.c1, .slice v3.hc.az 2 v3.hc.cz, .slice v3.hc.am 2 v3.hc.cm, .int .i64 (t.h.cpus : Int), .slice v3.hc.al v3.hc.lc.length v3.hc.cl, .slice v3.hc.av t.h.live.length v3.hc.cv, .slice v3.a2 v3.ys.length v3.c2] 38)) ((SR.at hn7).below b8) HKT.out HNM.out)
    have HB8 := Hid.mk (HBX.out.trans ((Below.step hb7 b8).mono HBX.out.size))
    clear K8 b8 hn7 hb7 HBK k0' k1' k2' k3' k4' k5' k6'
    go_wp2_with (go_at_call 11; refine HCK.out.mono ?_; rintro ev w9 ⟨rfl, hb9⟩)
    go_ret
    exact ⟨rfl, HB8.out.trans (hb9.mono HB8.out.size)⟩
  · have hb := HL2.out (by omega)
    have HBK : Hid (Calls Tryz.prog 10 #[.agg #[.slice v2.a1 v2.n1 v2.c1, .slice v2.hc.az 2 v2.hc.cz, .slice v2.hc.am 2 v2.hc.cm, .int .i64 (h.cpus : Int), .slice v2.hc.al v2.hc.lc.length v2.hc.cl, .slice v2.hc.av h.live.length v2.hc.cv, .slice v2.a2 v2.ys.length v2.c2], .string ⟨#[120, 97]⟩, .int .i64 0, .int .i64 k] w6 fun ev w' => ev = .returned (.tuple #[.agg #[.slice none 0 0, .slice none 0 0, .slice none 0 0, .int .i64 0, .slice none 0 0, .slice none 0 0, .slice none 0 0], .slice none 0 0, .int .i64 6]) ∧ Below w6.heap.size w6 w') := by
      refine hBK.mono ?_
      rintro ev w' (⟨_, h9, h10⟩ | ⟨t', l', v3, a', c', h9, _⟩)
      · exact ⟨h9, h10⟩
      · rw [hb] at h9
        cases h9
    have hLL : (if (7 : Int) < n then (n : Int) - 7 else 0) = ((n - 7 : Nat) : Int) := by split <;> omega
    have hmx : 4 * ((n - 7 : Nat) : Int) < k := by omega
    have hq9 : n - 7 ≤ 5 := by omega
    clear hBK hb HL1 HL2
    go_upto_region 8 with (go_at_call 10; refine HBK.out.mono ?_; rintro ev w7 ⟨rfl, hb7⟩)
    try rw [hLL]
    clear hLL hle
    generalize n - 7 = q at *
    have HB8 := Hid.mk (HBX.out.trans ((Below.step hb7 (below_alloc w7 (.cells #[.slice none 0 0, .slice none 0 0, .slice none 0 0, .int .i64 0, .slice none 0 0, .slice none 0 0, .slice none 0 0] 38))).mono HBX.out.size))
    clear hb7 HBK k0' k1' k2' k3' k4' k5' k6'
    go_wp2
    go_ret
    exact ⟨rfl, HB8.out⟩
theorem bulkAll_walk (a0 : Int) (w0 : (Lit.int .i64 a0).wf = true) (a1 : Int) (w1 : (Lit.int .i64 a1).wf = true) {w : World} (ho : Oth w) (hsz : Szs w) :
    Calls Tryz.prog 3 #[.int .i64 a0, .int .i64 a1] w fun ev w' => ev = .returned (.bool true) ∧ Below w.heap.size w w' := by
  have h0 := bounds_i64 w0
  have h1 := bounds_i64 w1
  exact bulkAll_go a0 a1 (by omega) (by omega) (by omega) (by omega) w ho hsz
end Go.Proofs.YtkcaheebaicinaaGreatDoor
