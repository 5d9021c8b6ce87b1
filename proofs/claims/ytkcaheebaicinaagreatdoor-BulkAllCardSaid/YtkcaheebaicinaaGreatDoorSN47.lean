/- Sb17: texts of this claim, joined. -/
import Derived.Test.YtkcaheebaicinaaGreatDoorSN35
import Derived.Test.YtkcaheebaicinaaGreatDoorSN46
/- Contract of package slab: Create (with align 1). -/
namespace Go.Proofs.YtkcaheebaicinaaGreatDoor
open Go.RowKit
set_option linter.unusedVariables false
set_option linter.unusedSimpArgs false

/-- is a cache of this size? -/
theorem createC_ok (y : Cc) (z : Nat) (B : Nat) (W : World) (hB : B < W.heap.size) (hc : W.cell? ⟨B, 0, none⟩ = some (.int .i64 z)) :
    Calls Tryz.prog 27 (#[.agg (encCc y).toArray] ++ #[.pointer (some ⟨B, 0, none⟩)]) W fun ev w' => ev = .returned (.bool (decide (y.c.z = z))) ∧ Below W.heap.size W w' := by
  show Calls Tryz.prog 27 #[.agg #[.slice y.a1 y.n1 y.c1, .int .i64 y.c.z, .int .i64 y.c.r, .int .i64 y.c.o, .slice y.a2 y.n2 y.c2, .slice y.a3 y.n3 y.c3], .pointer (some ⟨B, 0, none⟩)] W _
  have hb := below_alloc W (.cells #[.slice y.a1 y.n1 y.c1, .int .i64 (y.c.z : Int), .int .i64 (y.c.r : Int), .int .i64 (y.c.o : Int), .slice y.a2 y.n2 y.c2, .slice y.a3 y.n3 y.c3] 72)
  have K := box_new W #[.slice y.a1 y.n1 y.c1, .int .i64 (y.c.z : Int), .int .i64 (y.c.r : Int), .int .i64 (y.c.o : Int), .slice y.a2 y.n2 y.c2, .slice y.a3 y.n3 y.c3] 72
  have k1 := K 1
  simp only [List.getElem?_toArray, List.getElem?_cons_zero, List.getElem?_cons_succ] at k1
  have hc2 := (hb.cell (p := ⟨B, 0, none⟩) hB).trans hc
  have HB := Hid.mk hb
  clear hb K hc
  go_enter Tryz.func27, Tryz.ntmps27
  go_wp2
  go_ret
  exact ⟨ret_bool (by rw [Bool.eq_iff_iff]; simp only [beq_iff_eq, decide_eq_true_eq]; omega), HB.out⟩

/-- what Create answers -/
def createP (s' : Sy) (w : World) (ev : Ending) (w' : World) : Prop := ∃ v', ev = .returned (.tuple #[.agg (v'.vals s'), .int .i64 0]) ∧ SNew w' w.heap.size s' v' ∧ Below w.heap.size w w'

set_option maxHeartbeats 8000000 in
set_option maxRecDepth 100000 in
theorem createS_ok (v : Sc) (s s' : Sy) (n : List UInt8) (z : Nat) (w : World) (hs : SyAt w v s) (hk : SOk s) (hf : ∀ c ∈ s.cs, c.ns.length ≤ 999) (hnm : nameB n = true) (hz : 1 ≤ z ∧ z ≤ 64) (hno : s.named n = none) (hcr : s.create n z = some s') :
    Calls Tryz.prog 9 #[.agg #[.slice v.a1 v.n1 v.c1, .slice v.hc.az 2 v.hc.cz, .slice v.hc.am 2 v.hc.cm, .int .i64 (s.h.cpus : Int), .slice v.hc.al v.hc.lc.length v.hc.cl, .slice v.hc.av s.h.live.length v.hc.cv, .slice v.a2 v.ys.length v.c2], .string ⟨n.toArray⟩, .int .i64 z, .int .i64 1] w (createP s' w) := by
  have hf2 : ∀ c ∈ s.cs, c.ns.length ≤ 1000 := fun c hc => Nat.le_succ_of_le (hf c hc)
  obtain ⟨K1, K2, K3, F1, F2, F3, hsz, hbw⟩ := boxes3 w #[.slice v.a1 v.n1 v.c1, .slice v.hc.az 2 v.hc.cz, .slice v.hc.am 2 v.hc.cm, .int .i64 (s.h.cpus : Int), .slice v.hc.al v.hc.lc.length v.hc.cl, .slice v.hc.av s.h.live.length v.hc.cv, .slice v.a2 v.ys.length v.c2] 38 #[.int .i64 (z : Int)] 3 #[.slice none 0 0, .slice none 0 0, .slice none 0 0, .int .i64 0, .slice none 0 0, .slice none 0 0, .slice none 0 0] 38
  have hs1 := hs.below hbw
  have hyl : v.ys.length ≤ 20 := by have := congrArg List.length hs.cy; rw [List.length_map] at this; rw [this]; exact hk.cl
  have hn8 : n.length ≤ 8 := by
    unfold nameB at hnm
    simp only [Bool.and_eq_true, decide_eq_true_eq] at hnm
    exact hnm.1.2
  have HNM : Hid (∀ W, Calls Tryz.prog 23 #[.string ⟨n.toArray⟩] W fun ev w' => ev = .returned (.bool true) ∧ Below W.heap.size W w') := fun W => by
    have h := nameS_ok n W (by omega)
    rw [hnm] at h
    exact h
  have hfi : findI (fun c : Ca => c.ns.contains n) s.cs = -1 := by
    unfold Sy.named at hno
    unfold findI
    rw [hno]
  have HCK : Hid (∀ W, Below (((w.alloc (.cells #[.slice v.a1 v.n1 v.c1, .slice v.hc.az 2 v.hc.cz, .slice v.hc.am 2 v.hc.cm, .int .i64 (s.h.cpus : Int), .slice v.hc.al v.hc.lc.length v.hc.cl, .slice v.hc.av s.h.live.length v.hc.cv, .slice v.a2 v.ys.length v.c2] 38)).alloc (.cells #[.int .i64 (z : Int)] 3)).alloc (.cells #[.slice none 0 0, .slice none 0 0, .slice none 0 0, .int .i64 0, .slice none 0 0, .slice none 0 0, .slice none 0 0] 38)).heap.size (((w.alloc (.cells #[.slice v.a1 v.n1 v.c1, .slice v.hc.az 2 v.hc.cz, .slice v.hc.am 2 v.hc.cm, .int .i64 (s.h.cpus : Int), .slice v.hc.al v.hc.lc.length v.hc.cl, .slice v.hc.av s.h.live.length v.hc.cv, .slice v.a2 v.ys.length v.c2] 38)).alloc (.cells #[.int .i64 (z : Int)] 3)).alloc (.cells #[.slice none 0 0, .slice none 0 0, .slice none 0 0, .int .i64 0, .slice none 0 0, .slice none 0 0, .slice none 0 0] 38)) W → Calls Tryz.prog 11 #[.agg #[.slice v.a1 v.n1 v.c1, .slice v.hc.az 2 v.hc.cz, .slice v.hc.am 2 v.hc.cm, .int .i64 (s.h.cpus : Int), .slice v.hc.al v.hc.lc.length v.hc.cl, .slice v.hc.av s.h.live.length v.hc.cv, .slice v.a2 v.ys.length v.c2]] W fun ev w' => ev = .returned (.int .i64 0) ∧ Below W.heap.size W w') := fun W hW => checkS_ok v s W (hs1.below hW) hk hf2
  have HNA : Hid (∀ W, Below (((w.alloc (.cells #[.slice v.a1 v.n1 v.c1, .slice v.hc.az 2 v.hc.cz, .slice v.hc.am 2 v.hc.cm, .int .i64 (s.h.cpus : Int), .slice v.hc.al v.hc.lc.length v.hc.cl, .slice v.hc.av s.h.live.length v.hc.cv, .slice v.a2 v.ys.length v.c2] 38)).alloc (.cells #[.int .i64 (z : Int)] 3)).alloc (.cells #[.slice none 0 0, .slice none 0 0, .slice none 0 0, .int .i64 0, .slice none 0 0, .slice none 0 0, .slice none 0 0] 38)).heap.size (((w.alloc (.cells #[.slice v.a1 v.n1 v.c1, .slice v.hc.az 2 v.hc.cz, .slice v.hc.am 2 v.hc.cm, .int .i64 (s.h.cpus : Int), .slice v.hc.al v.hc.lc.length v.hc.cl, .slice v.hc.av s.h.live.length v.hc.cv, .slice v.a2 v.ys.length v.c2] 38)).alloc (.cells #[.int .i64 (z : Int)] 3)).alloc (.cells #[.slice none 0 0, .slice none 0 0, .slice none 0 0, .int .i64 0, .slice none 0 0, .slice none 0 0, .slice none 0 0] 38)) W → Calls Tryz.prog 24 #[.agg #[.slice v.a1 v.n1 v.c1, .slice v.hc.az 2 v.hc.cz, .slice v.hc.am 2 v.hc.cm, .int .i64 (s.h.cpus : Int), .slice v.hc.al v.hc.lc.length v.hc.cl, .slice v.hc.av s.h.live.length v.hc.cv, .slice v.a2 v.ys.length v.c2], .string ⟨n.toArray⟩] W fun ev w' => ev = .returned (.tuple #[.int .i64 (-1), .bool false]) ∧ Below W.heap.size W w') := fun W hW => by
    have h := namedS_ok v s n W (hs1.below hW) hf2 hyl
    rw [hfi] at h
    exact h
  have HCP : Hid (∀ W, Below w.heap.size w W → Calls Tryz.prog 25 #[.agg #[.slice v.a1 v.n1 v.c1, .slice v.hc.az 2 v.hc.cz, .slice v.hc.am 2 v.hc.cm, .int .i64 (s.h.cpus : Int), .slice v.hc.al v.hc.lc.length v.hc.cl, .slice v.hc.av s.h.live.length v.hc.cv, .slice v.a2 v.ys.length v.c2]] W fun ev w' => ∃ v', ev = .returned (.agg (v'.vals s)) ∧ SNew w' W.heap.size s v' ∧ Below W.heap.size W w') := fun W hW => copyS_ok v s W (hs.below hW) hk hf2
  have HK := Hid.mk hk
  have HF := Hid.mk hf
  have HB1 := Hid.mk hbw
  have HK1 := Hid.mk K1
  have HF1 := Hid.mk F1
  have HK2 := Hid.mk K2
  have HF2 := Hid.mk F2
  have HK3 := Hid.mk K3
  have HF3 := Hid.mk F3
  have hsz1 : w.heap.size < (((w.alloc (.cells #[.slice v.a1 v.n1 v.c1, .slice v.hc.az 2 v.hc.cz, .slice v.hc.am 2 v.hc.cm, .int .i64 (s.h.cpus : Int), .slice v.hc.al v.hc.lc.length v.hc.cl, .slice v.hc.av s.h.live.length v.hc.cv, .slice v.a2 v.ys.length v.c2] 38)).alloc (.cells #[.int .i64 (z : Int)] 3)).alloc (.cells #[.slice none 0 0, .slice none 0 0, .slice none 0 0, .int .i64 0, .slice none 0 0, .slice none 0 0, .slice none 0 0] 38)).heap.size := by omega
  have hsz2 : w.heap.size + 1 < (((w.alloc (.cells #[.slice v.a1 v.n1 v.c1, .slice v.hc.az 2 v.hc.cz, .slice v.hc.am 2 v.hc.cm, .int .i64 (s.h.cpus : Int), .slice v.hc.al v.hc.lc.length v.hc.cl, .slice v.hc.av s.h.live.length v.hc.cv, .slice v.a2 v.ys.length v.c2] 38)).alloc (.cells #[.int .i64 (z : Int)] 3)).alloc (.cells #[.slice none 0 0, .slice none 0 0, .slice none 0 0, .int .i64 0, .slice none 0 0, .slice none 0 0, .slice none 0 0] 38)).heap.size := by omega
  have HCR := Hid.mk hcr
  have HZ := Hid.mk hz
  have hz1 : ¬ (z : Int) < 1 := by omega
  have hz2 : ¬ (64 : Int) < z := by omega
  have k0 := HK1.out 0
  have k1 := HK1.out 1
  have k2 := HK1.out 2
  have k3 := HK1.out 3
  have k4 := HK1.out 4
  have k5 := HK1.out 5
  have k6 := HK1.out 6
  have q0 := HK2.out 0
  simp only [List.getElem?_toArray, List.getElem?_cons_zero, List.getElem?_cons_succ] at k0 k1 k2 k3 k4 k5 k6 q0
  clear hs hk hf hf2 hs1 hbw K1 K2 K3 F1 F2 F3 hno hfi hnm hcr hz
  go_enter Tryz.func9, Tryz.ntmps9
  go_upto_region 1 with fail
  generalize ((w.alloc (.cells #[.slice v.a1 v.n1 v.c1, .slice v.hc.az 2 v.hc.cz, .slice v.hc.am 2 v.hc.cm, .int .i64 (s.h.cpus : Int), .slice v.hc.al v.hc.lc.length v.hc.cl, .slice v.hc.av s.h.live.length v.hc.cv, .slice v.a2 v.ys.length v.c2] 38)).alloc (.cells #[.int .i64 (z : Int)] 3)).alloc (.cells #[.slice none 0 0, .slice none 0 0, .slice none 0 0, .int .i64 0, .slice none 0 0, .slice none 0 0, .slice none 0 0] 38) = w3 at *
  have LQ : ∀ W, Below w3.heap.size w3 W → W.cell? ⟨w.heap.size + 1, 0, none⟩ = some (.int .i64 (z : Int)) := fun W h => (h.cell (p := ⟨w.heap.size + 1, 0, none⟩) hsz2).trans q0
  go_upto_region 6 with (first | (go_at_call 11; refine (HCK.out _ (Below.refl _ _)).mono ?_; rintro ev wa ⟨rfl, hba⟩) | (go_at_call 23; refine (HNM.out _).mono ?_; rintro ev wb ⟨rfl, hbb⟩))
  have hb3b := Below.step hba hbb
  have qb := LQ wb hb3b
  have Kb := box_step HK1.out hsz1 hb3b
  clear k0 k1 k2 k3 k4 k5 k6 q0
  have k0 := Kb 0
  have k1 := Kb 1
  have k2 := Kb 2
  have k3 := Kb 3
  have k4 := Kb 4
  have k5 := Kb 5
  have k6 := Kb 6
  simp only [List.getElem?_toArray, List.getElem?_cons_zero, List.getElem?_cons_succ] at k0 k1 k2 k3 k4 k5 k6
  have HB3b := Hid.mk hb3b
  clear Kb hba hbb hb3b
  go_upto_region 9 with (go_at_call 24; refine (HNA.out _ HB3b.out).mono ?_; rintro ev wn ⟨rfl, hbn⟩)
  have HB3n := Hid.mk (Below.step HB3b.out hbn)
  have qn := LQ wn HB3n.out
  have fn := (frz_step HF2.out hsz2 HB3n.out) 0
  have Kn := box_step HK1.out hsz1 HB3n.out
  clear k0 k1 k2 k3 k4 k5 k6 qb
  have k0 := Kn 0
  have k1 := Kn 1
  have k2 := Kn 2
  have k3 := Kn 3
  have k4 := Kn 4
  have k5 := Kn 5
  have k6 := Kn 6
  simp only [List.getElem?_toArray, List.getElem?_cons_zero, List.getElem?_cons_succ] at k0 k1 k2 k3 k4 k5 k6
  clear hbn
  go_upto_region 12 with fail
  have hne01 : w.heap.size ≠ w.heap.size + 1 := by omega
  have hne1 : w.heap.size + 1 ≠ w.heap.size := by omega
  have hne2 : w.heap.size + 2 ≠ w.heap.size := by omega
  have hne21 : w.heap.size + 2 ≠ w.heap.size + 1 := by omega
  have hsw : w.heap.size ≤ w3.heap.size := Nat.le_of_lt hsz1
  have HBq := Hid.mk (Below.setCell (Below.trans HB1.out (HB3n.out.mono hsw)) (show w.heap.size ≤ (⟨w.heap.size + 1, 0, none⟩ : Addr).block from Nat.le_succ _) (.int .i64 (z : Int)))
  have Kq := box_set_other Kn hne01 0 (.int .i64 (z : Int))
  have Fq := frz_set (frz_step HF1.out hsz1 HB3n.out) ⟨w.heap.size + 1, 0, none⟩ (.int .i64 (z : Int))
  have K2q := box_set (box_step HK2.out hsz2 HB3n.out) 0 (.int .i64 (z : Int))
  simp only [List.setIfInBounds_toArray, List.set_cons_zero] at K2q
  have F2q := frz_set (frz_step HF2.out hsz2 HB3n.out) ⟨w.heap.size + 1, 0, none⟩ (.int .i64 (z : Int))
  have K3q := box_set_other (box_step HK3.out hsz HB3n.out) hne21 0 (.int .i64 (z : Int))
  have F3q := frz_set (frz_step HF3.out hsz HB3n.out) ⟨w.heap.size + 1, 0, none⟩ (.int .i64 (z : Int))
  have hszq : w.heap.size + 2 < (wn.setCell ⟨w.heap.size + 1, 0, none⟩ (.int .i64 (z : Int))).heap.size := by
    have := HB3n.out.size
    simp
    omega
  have HKq := Hid.mk Kq
  have HFq := Hid.mk Fq
  have HK2q := Hid.mk K2q
  have HF2q := Hid.mk F2q
  have HK3q := Hid.mk K3q
  have HF3q := Hid.mk F3q
  clear k0 k1 k2 k3 k4 k5 k6 qn fn Kn Kq Fq K2q F2q K3q F3q LQ HNA HCK HNM HB3n HB3b HK1 HF1 HK2 HF2 HK3 HF3
  generalize wn.setCell ⟨w.heap.size + 1, 0, none⟩ (.int .i64 (z : Int)) = wq at *
  have k0 := HKq.out 0
  have k1 := HKq.out 1
  have k2 := HKq.out 2
  have k3 := HKq.out 3
  have k4 := HKq.out 4
  have k5 := HKq.out 5
  have k6 := HKq.out 6
  simp only [List.getElem?_toArray, List.getElem?_cons_zero, List.getElem?_cons_succ] at k0 k1 k2 k3 k4 k5 k6
  have hszq1 : w.heap.size < wq.heap.size := by omega
  go_upto_region 13 with (go_at_call 25; refine (HCP.out _ HBq.out).mono ?_; rintro ev w5 ⟨v1, he, hnew, hb5⟩; unfold Sc.vals at he; subst he; have K15 := box_step HKq.out hszq1 hb5; have F15 := frz_step HFq.out hszq1 hb5; have y0 := K15 0; have y1 := K15 1; have y2 := K15 2; have y3 := K15 3; have y4 := K15 4; have y5 := K15 5; have y6 := K15 6; have f0 := F15 0; have f1 := F15 1; have f2 := F15 2; have f3 := F15 3; have f4 := F15 4; have f5 := F15 5; have f6 := F15 6; simp only [List.getElem?_toArray, List.getElem?_cons_zero, List.getElem?_cons_succ] at y0 y1 y2 y3 y4 y5 y6)
  have hlift : SR w5 w.heap.size (fun k => k < w.heap.size ∨ k = w.heap.size + 1 ∨ k = w.heap.size + 2) s v1 := SR.lift hnew hszq1 (fun k hk => by omega) (by omega)
  have hfin := SS.put7 hlift K15 F15
  have HS6 := Hid.mk hfin
  have hszq2 : w.heap.size + 1 < wq.heap.size := by omega
  have P0 := box_step HK2q.out hszq2 hb5
  have Q0 := frz_step HF2q.out hszq2 hb5
  have R0 := box_step HK3q.out hszq hb5
  have U0 := frz_step HF3q.out hszq hb5
  have P1 := box_set_other P0 hne1 0 (.slice v1.a1 v1.n1 v1.c1)
  have Q1 := frz_set Q0 ⟨w.heap.size, 0, none⟩ (.slice v1.a1 v1.n1 v1.c1)
  have R1 := box_set_other R0 hne2 0 (.slice v1.a1 v1.n1 v1.c1)
  have U1 := frz_set U0 ⟨w.heap.size, 0, none⟩ (.slice v1.a1 v1.n1 v1.c1)
  have P2 := box_set_other P1 hne1 1 (.slice v1.hc.az 2 v1.hc.cz)
  have Q2 := frz_set Q1 ⟨w.heap.size, 1, none⟩ (.slice v1.hc.az 2 v1.hc.cz)
  have R2 := box_set_other R1 hne2 1 (.slice v1.hc.az 2 v1.hc.cz)
  have U2 := frz_set U1 ⟨w.heap.size, 1, none⟩ (.slice v1.hc.az 2 v1.hc.cz)
  have P3 := box_set_other P2 hne1 2 (.slice v1.hc.am 2 v1.hc.cm)
  have Q3 := frz_set Q2 ⟨w.heap.size, 2, none⟩ (.slice v1.hc.am 2 v1.hc.cm)
  have R3 := box_set_other R2 hne2 2 (.slice v1.hc.am 2 v1.hc.cm)
  have U3 := frz_set U2 ⟨w.heap.size, 2, none⟩ (.slice v1.hc.am 2 v1.hc.cm)
  have P4 := box_set_other P3 hne1 3 (.int .i64 (s.h.cpus : Int))
  have Q4 := frz_set Q3 ⟨w.heap.size, 3, none⟩ (.int .i64 (s.h.cpus : Int))
  have R4 := box_set_other R3 hne2 3 (.int .i64 (s.h.cpus : Int))
  have U4 := frz_set U3 ⟨w.heap.size, 3, none⟩ (.int .i64 (s.h.cpus : Int))
  have P5 := box_set_other P4 hne1 4 (.slice v1.hc.al v1.hc.lc.length v1.hc.cl)
  have Q5 := frz_set Q4 ⟨w.heap.size, 4, none⟩ (.slice v1.hc.al v1.hc.lc.length v1.hc.cl)
  have R5 := box_set_other R4 hne2 4 (.slice v1.hc.al v1.hc.lc.length v1.hc.cl)
  have U5 := frz_set U4 ⟨w.heap.size, 4, none⟩ (.slice v1.hc.al v1.hc.lc.length v1.hc.cl)
  have P6 := box_set_other P5 hne1 5 (.slice v1.hc.av s.h.live.length v1.hc.cv)
  have Q6 := frz_set Q5 ⟨w.heap.size, 5, none⟩ (.slice v1.hc.av s.h.live.length v1.hc.cv)
  have R6 := box_set_other R5 hne2 5 (.slice v1.hc.av s.h.live.length v1.hc.cv)
  have U6 := frz_set U5 ⟨w.heap.size, 5, none⟩ (.slice v1.hc.av s.h.live.length v1.hc.cv)
  have P7 := box_set_other P6 hne1 6 (.slice v1.a2 v1.ys.length v1.c2)
  have Q7 := frz_set Q6 ⟨w.heap.size, 6, none⟩ (.slice v1.a2 v1.ys.length v1.c2)
  have R7 := box_set_other R6 hne2 6 (.slice v1.a2 v1.ys.length v1.c2)
  have U7 := frz_set U6 ⟨w.heap.size, 6, none⟩ (.slice v1.a2 v1.ys.length v1.c2)
  have HP := Hid.mk P7
  have HQ := Hid.mk Q7
  have HR := Hid.mk R7
  have HU := Hid.mk U7
  have HB5 := Hid.mk (Below.trans HBq.out (hb5.mono (Nat.le_of_lt hszq1)))
  have HB6 := Hid.mk (Below.setCell (Below.setCell (Below.setCell (Below.setCell (Below.setCell (Below.setCell (Below.setCell HB5.out (show w.heap.size ≤ (⟨w.heap.size, 0, none⟩ : Addr).block from Nat.le_refl _) (.slice v1.a1 v1.n1 v1.c1)) (show w.heap.size ≤ (⟨w.heap.size, 1, none⟩ : Addr).block from Nat.le_refl _) (.slice v1.hc.az 2 v1.hc.cz)) (show w.heap.size ≤ (⟨w.heap.size, 2, none⟩ : Addr).block from Nat.le_refl _) (.slice v1.hc.am 2 v1.hc.cm)) (show w.heap.size ≤ (⟨w.heap.size, 3, none⟩ : Addr).block from Nat.le_refl _) (.int .i64 (s.h.cpus : Int))) (show w.heap.size ≤ (⟨w.heap.size, 4, none⟩ : Addr).block from Nat.le_refl _) (.slice v1.hc.al v1.hc.lc.length v1.hc.cl)) (show w.heap.size ≤ (⟨w.heap.size, 5, none⟩ : Addr).block from Nat.le_refl _) (.slice v1.hc.av s.h.live.length v1.hc.cv)) (show w.heap.size ≤ (⟨w.heap.size, 6, none⟩ : Addr).block from Nat.le_refl _) (.slice v1.a2 v1.ys.length v1.c2))
  have hsz6 : w.heap.size + 2 < ((((((((w5.setCell ⟨w.heap.size, 0, none⟩ (.slice v1.a1 v1.n1 v1.c1)).setCell ⟨w.heap.size, 1, none⟩ (.slice v1.hc.az 2 v1.hc.cz)).setCell ⟨w.heap.size, 2, none⟩ (.slice v1.hc.am 2 v1.hc.cm)).setCell ⟨w.heap.size, 3, none⟩ (.int .i64 (s.h.cpus : Int))).setCell ⟨w.heap.size, 4, none⟩ (.slice v1.hc.al v1.hc.lc.length v1.hc.cl)).setCell ⟨w.heap.size, 5, none⟩ (.slice v1.hc.av s.h.live.length v1.hc.cv)).setCell ⟨w.heap.size, 6, none⟩ (.slice v1.a2 v1.ys.length v1.c2))).heap.size := by
    have := hb5.size
    simp
    omega
  clear y0 y1 y2 y3 y4 y5 y6 f0 f1 f2 f3 f4 f5 f6 K15 F15 hlift hfin hnew k0 k1 k2 k3 k4 k5 k6 P0 P1 P2 P3 P4 P5 P6 P7 Q0 Q1 Q2 Q3 Q4 Q5 Q6 Q7 R0 R1 R2 R3 R4 R5 R6 R7 U0 U1 U2 U3 U4 U5 U6 U7 HB5 hb5 HKq HFq HK2q HF2q HK3q HF3q HCP HBq
  generalize ((((((w5.setCell ⟨w.heap.size, 0, none⟩ (.slice v1.a1 v1.n1 v1.c1)).setCell ⟨w.heap.size, 1, none⟩ (.slice v1.hc.az 2 v1.hc.cz)).setCell ⟨w.heap.size, 2, none⟩ (.slice v1.hc.am 2 v1.hc.cm)).setCell ⟨w.heap.size, 3, none⟩ (.int .i64 (s.h.cpus : Int))).setCell ⟨w.heap.size, 4, none⟩ (.slice v1.hc.al v1.hc.lc.length v1.hc.cl)).setCell ⟨w.heap.size, 5, none⟩ (.slice v1.hc.av s.h.live.length v1.hc.cv)).setCell ⟨w.heap.size, 6, none⟩ (.slice v1.a2 v1.ys.length v1.c2) = w6 at *
  have p0 := HP.out 0
  have x6 := HS6.out.k 6
  unfold Sc.vals at x6
  simp only [List.getElem?_toArray, List.getElem?_cons_zero, List.getElem?_cons_succ] at p0 x6
  have eg : ∀ args w, (callFunc 27 args).run Tryz.prog w = .ok (.enter 27 args) w := enters_of Tryz.func27 (by kernel_rfl) rfl
  have hv1 : v1.ys.length ≤ 20 := by
    have h := congrArg List.length HS6.out.r.cy
    simp only [List.length_map] at h
    rw [h]
    exact HK.out.cl
  have hfz : findI (fun y : Cc => decide (y.c.z = z)) v1.ys = findI (fun c : Ca => decide (c.z = z)) s.cs := by
    rw [← HS6.out.r.cy]
    unfold findI
    rw [List.findIdx?_map]
    rfl
  have hsy6 := HS6.out.r.at
  have hcall := indexFuncCc v1.a2 v1.ys.length v1.c2 v1.ys 27 #[.pointer (some ⟨w.heap.size + 1, 0, none⟩)] (fun y => decide (y.c.z = z)) w6 rfl (by omega) hsy6.rc eg (fun W hW y hy => createC_ok y z (w.heap.size + 1) W (by have := hW.size; omega) ((hW.cell (p := ⟨w.heap.size + 1, 0, none⟩) (by show w.heap.size + 1 < w6.heap.size; omega)).trans p0))
  rw [hfz] at hcall
  have HIX := Hid.mk hcall
  clear hcall eg hsy6 hfz
  go_upto_region 14 with (go_at_call 26; refine HIX.out.mono ?_; rintro ev w7 ⟨rfl, hb7⟩)
  have HS7 := Hid.mk (HS6.out.below hb7)
  have hw6 : w.heap.size + 1 + 1 < w6.heap.size := hsz6
  have HR7 := Hid.mk (box_step HR.out hw6 hb7)
  have HU7 := Hid.mk (frz_step HU.out hw6 hb7)
  have HP7 := Hid.mk (box_step HP.out (show w.heap.size + 1 < w6.heap.size by omega) hb7)
  have HB7 := Hid.mk (HB6.out.trans (hb7.mono (show w.heap.size ≤ w6.heap.size by omega)))
  have hw7 : w.heap.size + 1 + 1 < w7.heap.size := Nat.lt_of_lt_of_le hw6 hb7.size
  clear HIX p0 x6 HS6 HP HQ HR HU HB6 hsz6 hb7 hw6
  cases hfd : s.cs.findIdx? (fun c => decide (c.z = z)) with
  | some i =>
    have hi : i < s.cs.length := by
      rw [List.findIdx?_eq_some_iff_getElem] at hfd
      exact hfd.1
    have hfe : findI (fun c : Ca => decide (c.z = z)) s.cs = (i : Int) := by
      unfold findI
      rw [hfd]
    have hi1 : i < v1.ys.length := by
      have h := congrArg List.length HS7.out.r.cy
      simp only [List.length_map] at h
      omega
    have hci : v1.ys[i].c = s.cs[i] := by
      have h1 := congrArg (·[i]?) HS7.out.r.cy
      simp [hi1, hi] at h1
      exact h1
    have hs' : s' = s.setC i { s.cs[i] with ns := s.cs[i].ns.take (lbN s.cs[i].ns n) ++ n :: s.cs[i].ns.drop (lbN s.cs[i].ns n) } := by
      have h := HCR.out
      unfold Sy.create at h
      rw [hfd] at h
      simp only [List.getElem?_eq_getElem hi] at h
      exact (Option.some.inj h).symm
    have hck := HK.out.ck _ (List.getElem_mem hi)
    have hfn := HF.out _ (List.getElem_mem hi)
    rw [← hci] at hs' hck hfn
    rw [hfe]
    obtain ⟨gc, ha2, hgcs, hgcG, hgcX, hcc⟩ := HS7.out.r.cAt hi1
    obtain ⟨hr1, hr2, hr3⟩ := HS7.out.r.y (List.getElem_mem hi1)
    obtain ⟨y, hy⟩ : ∃ y, v1.ys[i] = y := ⟨_, rfl⟩
    have HY := Hid.mk hy
    rw [hy] at hcc hr1 hs' hck hfn
    have hgns := HS7.out.r.cs_ns hi1 hy ha2
    have hl1 : y.c.ns.length = y.n1 := own_flat_len encS_length (by decide) hr1
    have hn1 : y.n1 ≤ 999 := by omega
    have b0 := (hcc 0 (by decide)).1
    have f0 := (hcc 0 (by decide)).2
    simp only [encCc, vI, List.getElem?_cons_zero, List.getElem?_cons_succ, Nat.add_zero] at b0 f0
    have x6 := HS7.out.k 6
    unfold Sc.vals at x6
    simp only [List.getElem?_toArray, List.getElem?_cons_zero, List.getElem?_cons_succ] at x6
    rw [ha2] at x6
    have hii : (i : Int) < v1.ys.length := by omega
    have hi0 : (0 : Int) ≤ i := by omega
    have HBI := Hid.mk (binS_ok y.a1 y.n1 y.c1 y.c.ns n w7 hl1 (by omega) (own_row hr1) hck.nr)
    have HSS' := Hid.mk hs'
    have HR1 := Hid.mk hr1
    have hle := lbN_le y.c.ns n
    have HL1 := Hid.mk hl1
    have HA2 := Hid.mk ha2
    have HGN := Hid.mk hgns
    clear hr2 hr3 hcc hr1 hy hs' hck hfn hci hfe hl1 hfd ha2 hgns
    go_upto_region 17 with (go_at_call 28; refine HBI.out.mono ?_; rintro ev w8 ⟨bb, rfl, rfl⟩)
    obtain ⟨K, hK⟩ : ∃ K, lbN y.c.ns n = K := ⟨_, rfl⟩
    rw [hK] at hle HSS' ⊢
    clear HBI hK
    have ba := below_alloc w7 (.cells #[.string ⟨n.toArray⟩] 9)
    have HS8 := Hid.mk (HS7.out.below ba)
    have HR18 : Hid ((nsR y).on (w7.alloc (.cells #[.string ⟨n.toArray⟩] 9)) 0) := own_below HR1.out ba (Nat.le_refl _)
    have HGB : Hid ((w7.alloc (.cells #[.string ⟨n.toArray⟩] 9)).heap[w7.heap.size]? = some (.cells (encS n).toArray 9 (0, 0))) := heap_alloc_new w7 _
    have HNB : Hid (some w7.heap.size ≠ Value.ownBlock (.slice y.a1 y.n1 y.c1)) := fun e => (own_ne HR1.out (.inr (Nat.le_refl _))) e.symm
    have hgc8 : gc < (w7.alloc (.cells #[.string ⟨n.toArray⟩] 9)).heap.size := Nat.lt_of_lt_of_le hgcs ba.size
    have HX8 := Hid.mk ((ba.cell (p := ⟨gc, i * 6, none⟩) hgcs).trans b0)
    have HY8 := Hid.mk ((ba.frozen (p := ⟨gc, i * 6, none⟩) hgcs).trans f0)
    have HGS : Hid (some gc ≠ (Value.slice y.a1 y.n1 y.c1).ownBlock) := fun e => HGN.out e.symm
    have hKn : K ≤ y.n1 := by rw [← HL1.out]; exact hle
    have HBA := Hid.mk ba
    clear ba HR1
    go_upto_region 18 with (go_at_call 29; refine (insert_s 0 y.a1 y.n1 y.c1 w7.heap.size K y.c.ns n _ HR18.out hKn (by omega) (Nat.zero_le _) HGB.out HNB.out).mono ?_; rintro ev w9 ⟨an, cn, rfl, hown9, hg9, hl9⟩; have q4 := (World.cell?_of_block (w := w7.alloc (.cells #[.string ⟨n.toArray⟩] 9)) (a := ⟨gc, i * 6, none⟩) (hg9.block gc hgc8 HGS.out)).trans HX8.out; have p4 := (World.frozen?_of_block (w := w7.alloc (.cells #[.string ⟨n.toArray⟩] 9)) (a := ⟨gc, i * 6, none⟩) (hg9.block gc hgc8 HGS.out)).trans HY8.out)
    obtain ⟨v2, t1, t2, t3⟩ := HS8.out.putNsY hi1 HY.out hown9 hg9 hl9 HA2.out
    have hsf := (Safe.ofBelow (X := fun k => k < w.heap.size ∨ k = w.heap.size + 1 ∨ k = w.heap.size + 2) HBA.out).trans t2
    have HRe := Hid.mk (hsf.box HR7.out hw7 (.inr (.inr rfl)))
    have HUe := Hid.mk (hsf.frz HU7.out hw7 (.inr (.inr rfl)))
    have HBe := Hid.mk (Safe.after HB7.out hsf (fun k hk => .inl hk) HB7.out.size)
    rw [← HSS'.out] at t1
    have HSe := Hid.mk t1
    clear t1 t2 t3 hsf q4 p4 hown9 hg9 hl9 HS8 HR18 HGB HNB HX8 HY8 HGS HBA HS7 HR7 HU7 HP7 HB7 b0 f0 x6 HSS'
    generalize w9.setCell ⟨gc, i * 6, none⟩ (.slice an (y.n1 + 1) cn) = we at *
    have x0 := HSe.out.k 0
    have x1 := HSe.out.k 1
    have x2 := HSe.out.k 2
    have x3 := HSe.out.k 3
    have x4 := HSe.out.k 4
    have x5 := HSe.out.k 5
    have x6 := HSe.out.k 6
    unfold Sc.vals at x0 x1 x2 x3 x4 x5 x6
    have y0 := HRe.out 0
    have y1 := HRe.out 1
    have y2 := HRe.out 2
    have y3 := HRe.out 3
    have y4 := HRe.out 4
    have y5 := HRe.out 5
    have y6 := HRe.out 6
    have f0 := HUe.out 0
    have f1 := HUe.out 1
    have f2 := HUe.out 2
    have f3 := HUe.out 3
    have f4 := HUe.out 4
    have f5 := HUe.out 5
    have f6 := HUe.out 6
    simp only [List.getElem?_toArray, List.getElem?_cons_zero, List.getElem?_cons_succ] at x0 x1 x2 x3 x4 x5 x6 y0 y1 y2 y3 y4 y5 y6
    have hle2 : w.heap.size ≤ w.heap.size + 1 + 1 := by omega
    have KX := (box_set (box_set (box_set (box_set (box_set (box_set (box_set HRe.out 0 (.slice v2.a1 v2.n1 v2.c1)) 1 (.slice v2.hc.az 2 v2.hc.cz)) 2 (.slice v2.hc.am 2 v2.hc.cm)) 3 (.int .i64 (s'.h.cpus : Int))) 4 (.slice v2.hc.al v2.hc.lc.length v2.hc.cl)) 5 (.slice v2.hc.av s'.h.live.length v2.hc.cv)) 6 (.slice v2.a2 v2.ys.length v2.c2))
    simp only [List.setIfInBounds_toArray, List.set_cons_zero, List.set_cons_succ] at KX
    have hX8 : (fun k => k < w.heap.size ∨ k = w.heap.size + 1 ∨ k = w.heap.size + 2) (w.heap.size + 1 + 1) := .inr (.inr rfl)
    have A0 := HSe.out
    have A1 := A0.farX hX8 0 (.slice v2.a1 v2.n1 v2.c1)
    have A2 := A1.farX hX8 1 (.slice v2.hc.az 2 v2.hc.cz)
    have A3 := A2.farX hX8 2 (.slice v2.hc.am 2 v2.hc.cm)
    have A4 := A3.farX hX8 3 (.int .i64 (s'.h.cpus : Int))
    have A5 := A4.farX hX8 4 (.slice v2.hc.al v2.hc.lc.length v2.hc.cl)
    have A6 := A5.farX hX8 5 (.slice v2.hc.av s'.h.live.length v2.hc.cv)
    have A7 := A6.farX hX8 6 (.slice v2.a2 v2.ys.length v2.c2)
    have HSX := Hid.mk (A7.sub (Y := fun k => k < w.heap.size) (fun k hk => .inl hk)).r
    have HBX := Hid.mk (Below.setCell (Below.setCell (Below.setCell (Below.setCell (Below.setCell (Below.setCell (Below.setCell HBe.out (show w.heap.size ≤ (⟨w.heap.size + 1 + 1, 0, none⟩ : Addr).block from hle2) (.slice v2.a1 v2.n1 v2.c1)) (show w.heap.size ≤ (⟨w.heap.size + 1 + 1, 1, none⟩ : Addr).block from hle2) (.slice v2.hc.az 2 v2.hc.cz)) (show w.heap.size ≤ (⟨w.heap.size + 1 + 1, 2, none⟩ : Addr).block from hle2) (.slice v2.hc.am 2 v2.hc.cm)) (show w.heap.size ≤ (⟨w.heap.size + 1 + 1, 3, none⟩ : Addr).block from hle2) (.int .i64 (s'.h.cpus : Int))) (show w.heap.size ≤ (⟨w.heap.size + 1 + 1, 4, none⟩ : Addr).block from hle2) (.slice v2.hc.al v2.hc.lc.length v2.hc.cl)) (show w.heap.size ≤ (⟨w.heap.size + 1 + 1, 5, none⟩ : Addr).block from hle2) (.slice v2.hc.av s'.h.live.length v2.hc.cv)) (show w.heap.size ≤ (⟨w.heap.size + 1 + 1, 6, none⟩ : Addr).block from hle2) (.slice v2.a2 v2.ys.length v2.c2))
    clear A0 A1 A2 A3 A4 A5 A6 A7 hX8
    go_wp2_with fail
    generalize ((((((we.setCell ⟨w.heap.size + 1 + 1, 0, none⟩ (.slice v2.a1 v2.n1 v2.c1)).setCell ⟨w.heap.size + 1 + 1, 1, none⟩ (.slice v2.hc.az 2 v2.hc.cz)).setCell ⟨w.heap.size + 1 + 1, 2, none⟩ (.slice v2.hc.am 2 v2.hc.cm)).setCell ⟨w.heap.size + 1 + 1, 3, none⟩ (.int .i64 (s'.h.cpus : Int))).setCell ⟨w.heap.size + 1 + 1, 4, none⟩ (.slice v2.hc.al v2.hc.lc.length v2.hc.cl)).setCell ⟨w.heap.size + 1 + 1, 5, none⟩ (.slice v2.hc.av s'.h.live.length v2.hc.cv)).setCell ⟨w.heap.size + 1 + 1, 6, none⟩ (.slice v2.a2 v2.ys.length v2.c2) = wx at *
    exact bodyPost_ret (v := .tuple #[.agg #[.slice v2.a1 v2.n1 v2.c1, .slice v2.hc.az 2 v2.hc.cz, .slice v2.hc.am 2 v2.hc.cm, .int .i64 (s'.h.cpus : Int), .slice v2.hc.al v2.hc.lc.length v2.hc.cl, .slice v2.hc.av s'.h.live.length v2.hc.cv, .slice v2.a2 v2.ys.length v2.c2], .int .i64 0]) (by simp [results, Tryz.results9, go_sem, KX]) rfl ⟨v2, rfl, HSX.out, HBX.out⟩
  | none =>
    have hfe : findI (fun c : Ca => decide (c.z = z)) s.cs = -1 := by
      unfold findI
      rw [hfd]
    have hcl : v1.ys.length = s.cs.length := by
      have h := congrArg List.length HS7.out.r.cy
      simpa using h
    have hne20 : s.cs.length ≠ 20 ∧ s' = { s with cs := s.cs ++ [⟨[n], z, layN z, layO z, [], List.replicate s.h.cpus (-1)⟩] } := by
      have h := HCR.out
      unfold Sy.create at h
      rw [hfd] at h
      simp only at h
      split at h
      · cases h
      · exact ⟨by assumption, (Option.some.inj h).symm⟩
    have hl20 : ((v1.ys.length : Int) == 20) = false := by
      rw [beq_eq_false_iff_ne]
      omega
    have HSS' := Hid.mk hne20.2
    rw [hfe]
    have x6 := HS7.out.k 6
    have x3 := HS7.out.k 3
    have p0 := HP7.out 0
    unfold Sc.vals at x6 x3
    simp only [List.getElem?_toArray, List.getElem?_cons_zero, List.getElem?_cons_succ] at x6 x3 p0
    have HLY := Hid.mk (layoutS_ok z w7 HZ.out.1 HZ.out.2)
    have hcp4 := HK.out.hk.cp.2
    have p0' := ((below_alloc w7 (.cells #[.string ⟨n.toArray⟩] 9)).cell (p := ⟨w.heap.size + 1, 0, none⟩) (by show w.heap.size + 1 < w7.heap.size; omega)).trans p0
    clear hfe hfd hne20 hcl
    go_upto_region 23 with (go_at_call 30; refine HLY.out.mono ?_; rintro ev w8 ⟨rfl, rfl⟩)
    have ba := below_alloc w7 (.cells #[.string ⟨n.toArray⟩] 9)
    have bb := below_alloc (w7.alloc (.cells #[.string ⟨n.toArray⟩] 9)) (.cells #[.slice (some ⟨w7.heap.size, 0, none⟩) 1 1, .int .i64 (z : Int), .int .i64 (layN z : Int), .int .i64 (layO z : Int), .slice none 0 0, .slice none 0 0] 72)
    have hbb := Below.step ba bb
    have hs8 : (w7.alloc (.cells #[.string ⟨n.toArray⟩] 9)).heap.size = w7.heap.size + 1 := by simp
    have KC := box_new (w7.alloc (.cells #[.string ⟨n.toArray⟩] 9)) #[.slice (some ⟨w7.heap.size, 0, none⟩) 1 1, .int .i64 (z : Int), .int .i64 (layN z : Int), .int .i64 (layO z : Int), .slice none 0 0, .slice none 0 0] 72
    have FC := box_frz (w7.alloc (.cells #[.string ⟨n.toArray⟩] 9)) #[.slice (some ⟨w7.heap.size, 0, none⟩) 1 1, .int .i64 (z : Int), .int .i64 (layN z : Int), .int .i64 (layO z : Int), .slice none 0 0, .slice none 0 0] 72
    rw [hs8] at KC FC
    have hs9 : ((w7.alloc (.cells #[.string ⟨n.toArray⟩] 9)).alloc (.cells #[.slice (some ⟨w7.heap.size, 0, none⟩) 1 1, .int .i64 (z : Int), .int .i64 (layN z : Int), .int .i64 (layO z : Int), .slice none 0 0, .slice none 0 0] 72)).heap.size = w7.heap.size + 2 := by simp
    have HN9 : Hid (((w7.alloc (.cells #[.string ⟨n.toArray⟩] 9)).alloc (.cells #[.slice (some ⟨w7.heap.size, 0, none⟩) 1 1, .int .i64 (z : Int), .int .i64 (layN z : Int), .int .i64 (layO z : Int), .slice none 0 0, .slice none 0 0] 72)).ownsRow w7.heap.size 9 1 (.slice (some ⟨w7.heap.size, 0, none⟩) 1 1) 1 [.string ⟨n.toArray⟩]) :=
      own_below ⟨by simp, .inr ⟨w7.heap.size, 1, #[.string ⟨n.toArray⟩], rfl, Nat.le_refl _, heap_alloc_new w7 _, Nat.le_refl _, by unfold maxLen; omega, by simp, by simp⟩⟩ bb (Nat.le_refl _)
    have HS9 : Hid (SS ((w7.alloc (.cells #[.string ⟨n.toArray⟩] 9)).alloc (.cells #[.slice (some ⟨w7.heap.size, 0, none⟩) 1 1, .int .i64 (z : Int), .int .i64 (layN z : Int), .int .i64 (layO z : Int), .slice none 0 0, .slice none 0 0] 72)) w.heap.size (fun k => (k < w.heap.size ∨ k = w.heap.size + 1 ∨ k = w.heap.size + 2) ∨ k = w7.heap.size + 1) s v1) :=
      (HS7.out.new hbb).sub fun k hk => hk.imp id fun e => by rw [hs9]; omega
    have HR9 := Hid.mk (box_step HR7.out hw7 hbb)
    have HU9 := Hid.mk (frz_step HU7.out hw7 hbb)
    have HB9 := Hid.mk (HB7.out.trans (hbb.mono (Nat.le_trans (Nat.le_of_lt (Nat.lt_of_succ_lt (Nat.lt_of_succ_lt hw7))) (Nat.le_refl _))))
    have HKC := Hid.mk KC
    have HFC := Hid.mk FC
    have x3' := (hbb.cell (p := ⟨w.heap.size, 3, none⟩) (by show w.heap.size < w7.heap.size; omega)).trans x3
    clear ba bb hbb KC FC x3 x6 p0 p0' HR7 HU7 HB7 HP7 HLY hs8
    generalize (w7.alloc (.cells #[.string ⟨n.toArray⟩] 9)).alloc (.cells #[.slice (some ⟨w7.heap.size, 0, none⟩) 1 1, .int .i64 (z : Int), .int .i64 (layN z : Int), .int .i64 (layO z : Int), .slice none 0 0, .slice none 0 0] 72) = w9 at *
    go_wp2_with fail
    clear x3'
    go_loopw [122] (fun s122 wr => ∃ (j : Nat) (a3 : Option Addr) (c3 : Nat), j ≤ s.h.cpus ∧ s122 = .int .i64 (j : Int) ∧ Hid (SS wr w.heap.size (fun k => ((k < w.heap.size ∨ k = w.heap.size + 1 ∨ k = w.heap.size + 2) ∨ k = w7.heap.size + 1) ∨ (Value.slice a3 j c3).ownBlock = some k) s v1) ∧ Hid (wr.ownsRow w7.heap.size 9 1 (.slice (some ⟨w7.heap.size, 0, none⟩) 1 1) 1 [.string ⟨n.toArray⟩]) ∧ Hid (wr.ownsRow w9.heap.size 3 1 (.slice a3 j c3) j ((List.replicate j (-1)).map vI)) ∧ Hid (∀ o, wr.cell? ⟨w7.heap.size + 1, o, none⟩ = (#[.slice (some ⟨w7.heap.size, 0, none⟩) 1 1, .int .i64 (z : Int), .int .i64 (layN z : Int), .int .i64 (layO z : Int), .slice none 0 0, .slice a3 j c3] : Array Value)[o]?) ∧ Hid (∀ o, wr.frozen? ⟨w7.heap.size + 1, o, none⟩ = false) ∧ Hid (∀ o, wr.cell? ⟨w.heap.size + 1 + 1, o, none⟩ = (#[.slice none 0 0, .slice none 0 0, .slice none 0 0, .int .i64 0, .slice none 0 0, .slice none 0 0, .slice none 0 0] : Array Value)[o]?) ∧ Hid (∀ o, wr.frozen? ⟨w.heap.size + 1 + 1, o, none⟩ = false) ∧ w9.heap.size ≤ wr.heap.size ∧ Hid (Below w.heap.size w wr)) (fun s122 _ => s.h.cpus - (intOf s122).toNat)
    case atStart => exact ⟨0, none, 0, Nat.zero_le _, rfl, HS9.out.sub (fun k hk => hk.resolve_right (by simp [Value.ownBlock])), HN9, World.ownsRow_nil _ _ _ _, HKC, HFC, HR9, HU9, Nat.le_refl _, HB9⟩
    case round =>
      obtain ⟨j, a3, c3, hj, rfl, HSj, HNj, HAj, HKj, HFj, HRj, HUj, hwj, HBj⟩ := hrel
      clear HS9 HN9 HKC HFC HR9 HU9 HB9
      have hcj : w7.heap.size + 1 < wr.heap.size := by omega
      have htj : w.heap.size + 1 + 1 < wr.heap.size := by omega
      by_cases hlt : j < s.h.cpus
      · have hji : (j : Int) < s.h.cpus := by omega
        have ba := below_alloc wr (.cells #[.int .i64 (-1)] 3)
        have HS1 := Hid.mk (HSj.out.below ba)
        have HN1 : Hid ((wr.alloc (.cells #[.int .i64 (-1)] 3)).ownsRow w7.heap.size 9 1 (.slice (some ⟨w7.heap.size, 0, none⟩) 1 1) 1 [.string ⟨n.toArray⟩]) := own_below HNj.out ba (Nat.le_refl _)
        have HA1 : Hid ((wr.alloc (.cells #[.int .i64 (-1)] 3)).ownsRow w9.heap.size 3 1 (.slice a3 j c3) j ((List.replicate j (-1)).map vI)) := own_below HAj.out ba (Nat.le_refl _)
        have HK1 := Hid.mk (box_step HKj.out hcj ba)
        have HF1 := Hid.mk (frz_step HFj.out hcj ba)
        have HR1 := Hid.mk (box_step HRj.out htj ba)
        have HU1 := Hid.mk (frz_step HUj.out htj ba)
        have HB1' := Hid.mk (Below.step HBj.out ba)
        have hw1 : w9.heap.size ≤ (wr.alloc (.cells #[.int .i64 (-1)] 3)).heap.size := Nat.le_trans hwj ba.size
        have HNW := Hid.mk (World.news_of_block (heap_alloc_new wr (.cells #[.int .i64 (-1)] 3)))
        have k5 := HKj.out 5
        simp only [List.getElem?_toArray, List.getElem?_cons_zero, List.getElem?_cons_succ] at k5
        obtain ⟨ti, hti, htz, hts, htb⟩ := info_parts info_int
        have hcs : w7.heap.size + 1 < (wr.alloc (.cells #[.int .i64 (-1)] 3)).heap.size := Nat.lt_of_lt_of_le hcj ba.size
        have hts1 : w.heap.size + 1 + 1 < (wr.alloc (.cells #[.int .i64 (-1)] 3)).heap.size := Nat.lt_of_lt_of_le htj ba.size
        have hneC : some (w7.heap.size + 1) ≠ (Value.slice a3 j c3).ownBlock := fun e => by
          have := (HAj.out.lt _ e.symm).1
          omega
        have hneT : some (w.heap.size + 1 + 1) ≠ (Value.slice a3 j c3).ownBlock := fun e => by
          have := (HAj.out.lt _ e.symm).1
          omega
        have hneN : ∀ k, (Value.slice (some ⟨w7.heap.size, 0, none⟩) 1 1).ownBlock = some k → (Value.slice a3 j c3).ownBlock ≠ some k := fun k e e' => by
          have h1 := (HAj.out.lt _ e').1
          have h2 : w7.heap.size = k := by simpa [Value.ownBlock] using e
          omega
        have HNEC := Hid.mk hneC
        have HNET := Hid.mk hneT
        have HNEN := Hid.mk hneN
        clear ba HSj HNj HAj HKj HFj HRj HUj HBj hneC hneT hneN
        go_wp2_with (at_builtin; refine wpList_append_lies _ rfl _ _ 30 rfl w9.heap.size 3 ti (.int .i64 0) 1 8 Tryz.underlying30 hti htz hts htb rfl (by decide) (.slice a3 j c3) j ((List.replicate j (-1)).map vI) rfl HA1.out ⟨wr.heap.size, 0, none⟩ 1 1 [.int .i64 (-1)] rfl rfl HNW.out (by simp [Value.oneCell']) (by decide) (by unfold maxLen; omega) (by omega) hw1 _ rfl ?_; intro g7 cap7 wg ho7 hg7 hl7 hlt7; have q5 := (box_grown HK1.out hcs hg7 HNEC.out 5).trans (show _ = some (.slice a3 j c3) from rfl); have f5 := frz_grown HF1.out hcs hg7 HNEC.out 5)
        have HSg := HS1.out.out (Z := fun k => ((k < w.heap.size ∨ k = w.heap.size + 1 ∨ k = w.heap.size + 2) ∨ k = w7.heap.size + 1) ∨ (Value.slice (some ⟨g7, 0, none⟩) (j + 1) cap7).ownBlock = some k) hg7 (fun k e => .inr e) (fun k hk => by
          rcases hk with h | h
          · exact .inl (.inl h)
          · obtain rfl : g7 = k := by simpa [Value.ownBlock] using h
            rcases hl7 with h1 | h1
            · exact .inl (.inr h1)
            · exact .inr ⟨Nat.le_of_eq h1.symm, hlt7⟩)
        have HS2 := Hid.mk (HSg.farX (g := w7.heap.size + 1) (.inl (.inr rfl)) 5 (.slice (some ⟨g7, 0, none⟩) (j + 1) cap7))
        have HA2 : Hid ((wg.setCell ⟨w7.heap.size + 1, 5, none⟩ (.slice (some ⟨g7, 0, none⟩) (j + 1) cap7)).ownsRow w9.heap.size 3 1 (.slice (some ⟨g7, 0, none⟩) (j + 1) cap7) (j + 1) ((List.replicate (j + 1) (-1)).map vI)) := by
          unfold Hid
          rw [List.replicate_succ', List.map_append]
          exact own_set (i := 5) ho7 (fun e => by have := (ho7.lt _ e).1; omega) _
        have HN2 : Hid ((wg.setCell ⟨w7.heap.size + 1, 5, none⟩ (.slice (some ⟨g7, 0, none⟩) (j + 1) cap7)).ownsRow w7.heap.size 9 1 (.slice (some ⟨w7.heap.size, 0, none⟩) 1 1) 1 [.string ⟨n.toArray⟩]) :=
          own_set (i := 5) (own_grown HN1.out hg7 (fun k hk => HNEN.out k hk)) (by simp [Value.ownBlock]) _
        have K2' := box_set (box_grown HK1.out hcs hg7 HNEC.out) 5 (.slice (some ⟨g7, 0, none⟩) (j + 1) cap7)
        simp only [List.setIfInBounds_toArray, List.set_cons_zero, List.set_cons_succ] at K2'
        have HK2' := Hid.mk K2'
        have HF2' := Hid.mk (frz_set (frz_grown HF1.out hcs hg7 HNEC.out) ⟨w7.heap.size + 1, 5, none⟩ (.slice (some ⟨g7, 0, none⟩) (j + 1) cap7))
        have HR2' := Hid.mk (box_set_other (box_grown HR1.out hts1 hg7 HNET.out) (show w.heap.size + 1 + 1 ≠ w7.heap.size + 1 by omega) 5 (.slice (some ⟨g7, 0, none⟩) (j + 1) cap7))
        have HU2' := Hid.mk (frz_set (frz_grown HU1.out hts1 hg7 HNET.out) ⟨w7.heap.size + 1, 5, none⟩ (.slice (some ⟨g7, 0, none⟩) (j + 1) cap7))
        have HB2' : Hid (Below w.heap.size w (wg.setCell ⟨w7.heap.size + 1, 5, none⟩ (.slice (some ⟨g7, 0, none⟩) (j + 1) cap7))) := Below.setCell (Below.grown HB1'.out hg7 HB1'.out.size fun k e => by
          have := (HA1.out.lt k e).1
          omega) (show w.heap.size ≤ (⟨w7.heap.size + 1, 5, none⟩ : Addr).block by show w.heap.size ≤ w7.heap.size + 1; omega) _
        have hw2 : w9.heap.size ≤ (wg.setCell ⟨w7.heap.size + 1, 5, none⟩ (.slice (some ⟨g7, 0, none⟩) (j + 1) cap7)).heap.size := by
          have := hg7.size
          simp
          omega
        clear ho7 hg7 hl7 hlt7 HSg K2' HS1 HN1 HA1 HK1 HF1 HR1 HU1 HB1' HNW HNEC HNET HNEN q5 f5 k5
        go_wp2
        go_roundw
        case rel => exact ⟨j + 1, some ⟨g7, 0, none⟩, cap7, by omega, by go_num, HS2, HN2, HA2, HK2', HF2', HR2', HU2', hw2, HB2'⟩
        case measure => simp [intOf]; omega
      · obtain rfl : j = s.h.cpus := by omega
        have ba := below_alloc wr (.cells #[.slice (some ⟨w7.heap.size, 0, none⟩) 1 1, .int .i64 (z : Int), .int .i64 (layN z : Int), .int .i64 (layO z : Int), .slice none 0 0, .slice a3 s.h.cpus c3] 72)
        have x6 := HSj.out.k 6
        have q0 := HKj.out 0
        have q1 := HKj.out 1
        have q2 := HKj.out 2
        have q3 := HKj.out 3
        have q4 := HKj.out 4
        have q5 := HKj.out 5
        unfold Sc.vals at x6
        simp only [List.getElem?_toArray, List.getElem?_cons_zero, List.getElem?_cons_succ] at x6 q0 q1 q2 q3 q4 q5
        have HSA : Hid (SS (wr.alloc (.cells #[.slice (some ⟨w7.heap.size, 0, none⟩) 1 1, .int .i64 (z : Int), .int .i64 (layN z : Int), .int .i64 (layO z : Int), .slice none 0 0, .slice a3 s.h.cpus c3] 72)) w.heap.size (fun k => k < w.heap.size ∨ k = w.heap.size + 1 ∨ k = w.heap.size + 2) s v1) := (HSj.out.below ba).sub fun k hk => .inl (.inl hk)
        have HRA := Hid.mk (box_step HRj.out htj ba)
        have HUA := Hid.mk (frz_step HUj.out htj ba)
        have HBA := Hid.mk (Below.step HBj.out ba)
        have htA : w.heap.size + 1 + 1 < (wr.alloc (.cells #[.slice (some ⟨w7.heap.size, 0, none⟩) 1 1, .int .i64 (z : Int), .int .i64 (layN z : Int), .int .i64 (layO z : Int), .slice none 0 0, .slice a3 s.h.cpus c3] 72)).heap.size := Nat.lt_of_lt_of_le htj ba.size
        have o1 : OwnL (wr.alloc (.cells #[.slice (some ⟨w7.heap.size, 0, none⟩) 1 1, .int .i64 (z : Int), .int .i64 (layN z : Int), .int .i64 (layO z : Int), .slice none 0 0, .slice a3 s.h.cpus c3] 72)) 0 (nsR (⟨some ⟨w7.heap.size, 0, none⟩, 1, 1, none, 0, 0, a3, s.h.cpus, c3, ⟨[n], z, layN z, layO z, [], List.replicate s.h.cpus (-1)⟩⟩ : Cc) :: v1.rows s) := OwnL.cons (bs := w7.heap.size) HSA.out.r.own (r' := nsR (⟨some ⟨w7.heap.size, 0, none⟩, 1, 1, none, 0, 0, a3, s.h.cpus, c3, ⟨[n], z, layN z, layO z, [], List.replicate s.h.cpus (-1)⟩⟩ : Cc)) (own_below HNj.out ba (Nat.le_refl _)) (Nat.zero_le _) fun r hr g hg => HS7.out.r.lt r hr g hg
        have o2 : OwnL (wr.alloc (.cells #[.slice (some ⟨w7.heap.size, 0, none⟩) 1 1, .int .i64 (z : Int), .int .i64 (layN z : Int), .int .i64 (layO z : Int), .slice none 0 0, .slice a3 s.h.cpus c3] 72)) 0 (slR (⟨some ⟨w7.heap.size, 0, none⟩, 1, 1, none, 0, 0, a3, s.h.cpus, c3, ⟨[n], z, layN z, layO z, [], List.replicate s.h.cpus (-1)⟩⟩ : Cc) :: nsR (⟨some ⟨w7.heap.size, 0, none⟩, 1, 1, none, 0, 0, a3, s.h.cpus, c3, ⟨[n], z, layN z, layO z, [], List.replicate s.h.cpus (-1)⟩⟩ : Cc) :: v1.rows s) := OwnL.cons (bs := (wr.alloc (.cells #[.slice (some ⟨w7.heap.size, 0, none⟩) 1 1, .int .i64 (z : Int), .int .i64 (layN z : Int), .int .i64 (layO z : Int), .slice none 0 0, .slice a3 s.h.cpus c3] 72)).heap.size) o1 (r' := slR (⟨some ⟨w7.heap.size, 0, none⟩, 1, 1, none, 0, 0, a3, s.h.cpus, c3, ⟨[n], z, layN z, layO z, [], List.replicate s.h.cpus (-1)⟩⟩ : Cc)) (World.ownsRow_nil _ _ _ _) (Nat.zero_le _) fun r hr g hg => (o1.lt r hr g hg).2
        have o3 : OwnL (wr.alloc (.cells #[.slice (some ⟨w7.heap.size, 0, none⟩) 1 1, .int .i64 (z : Int), .int .i64 (layN z : Int), .int .i64 (layO z : Int), .slice none 0 0, .slice a3 s.h.cpus c3] 72)) 0 (acR (⟨some ⟨w7.heap.size, 0, none⟩, 1, 1, none, 0, 0, a3, s.h.cpus, c3, ⟨[n], z, layN z, layO z, [], List.replicate s.h.cpus (-1)⟩⟩ : Cc) :: slR (⟨some ⟨w7.heap.size, 0, none⟩, 1, 1, none, 0, 0, a3, s.h.cpus, c3, ⟨[n], z, layN z, layO z, [], List.replicate s.h.cpus (-1)⟩⟩ : Cc) :: nsR (⟨some ⟨w7.heap.size, 0, none⟩, 1, 1, none, 0, 0, a3, s.h.cpus, c3, ⟨[n], z, layN z, layO z, [], List.replicate s.h.cpus (-1)⟩⟩ : Cc) :: v1.rows s) := OwnL.cons (bs := w9.heap.size) o2 (r' := acR (⟨some ⟨w7.heap.size, 0, none⟩, 1, 1, none, 0, 0, a3, s.h.cpus, c3, ⟨[n], z, layN z, layO z, [], List.replicate s.h.cpus (-1)⟩⟩ : Cc)) (own_below HAj.out ba (Nat.le_refl _)) (Nat.zero_le _) fun r hr g hg => by
          rcases List.mem_cons.1 hr with rfl | hr
          · simp [slR, Value.ownBlock] at hg
          · rcases List.mem_cons.1 hr with rfl | hr
            · have : w7.heap.size = g := by simpa [nsR, Value.ownBlock] using hg
              omega
            · have := HS7.out.r.lt r hr g hg
              omega
        have hfr : ∀ r ∈ ccRs (⟨some ⟨w7.heap.size, 0, none⟩, 1, 1, none, 0, 0, a3, s.h.cpus, c3, ⟨[n], z, layN z, layO z, [], List.replicate s.h.cpus (-1)⟩⟩ : Cc), ∀ g, r.v.ownBlock = some g → v1.fr s w.heap.size (fun k => k < w.heap.size ∨ k = w.heap.size + 1 ∨ k = w.heap.size + 2) g := fun r hr g hg => HS7.out.r.fresh (by
          simp only [ccRs, List.mem_cons, List.not_mem_nil, or_false] at hr
          rcases hr with rfl | rfl | rfl
          · have : w7.heap.size = g := by simpa [nsR, Value.ownBlock] using hg
            omega
          · simp [slR, Value.ownBlock] at hg
          · have := (HAj.out.lt g hg).1
            omega)
        have HO3 := Hid.mk o3
        have HFR := Hid.mk hfr
        have HCS : Hid ((csR v1).on (wr.alloc (.cells #[.slice (some ⟨w7.heap.size, 0, none⟩) 1 1, .int .i64 (z : Int), .int .i64 (layN z : Int), .int .i64 (layO z : Int), .slice none 0 0, .slice a3 s.h.cpus c3] 72)) 0) := HSA.out.r.own.each _ (rows_cs v1 _)
        have HNE : Hid ((csR v1).v.ownBlock ≠ some w.heap.size) := fun e => (HSA.out.r.og _ (rows_cs v1 _) _ e).1 rfl
        have HNW := Hid.mk (World.news_of_block (heap_alloc_new wr (.cells #[.slice (some ⟨w7.heap.size, 0, none⟩) 1 1, .int .i64 (z : Int), .int .i64 (layN z : Int), .int .i64 (layO z : Int), .slice none 0 0, .slice a3 s.h.cpus c3] 72)))
        obtain ⟨ti, hti, htz, hts, htb⟩ := info_parts info_cc
        have hgs := HSA.out.r.hr.gs
        clear o1 o2 o3 hfr ba HSj HNj HAj HKj HFj HRj HUj HBj
        go_upto_region 28 with (at_builtin; refine wpList_append_lies _ rfl _ _ 36 rfl 0 72 ti (.agg #[.slice none 0 0, .int .i64 0, .int .i64 0, .int .i64 0, .slice none 0 0, .slice none 0 0]) 6 96 Tryz.underlying36 hti htz hts htb rfl (by decide) (.slice v1.a2 v1.ys.length v1.c2) v1.ys.length (flat encCc v1.ys) rfl HCS.out ⟨wr.heap.size, 0, none⟩ 1 1 [.slice (some ⟨w7.heap.size, 0, none⟩) 1 1, .int .i64 (z : Int), .int .i64 (layN z : Int), .int .i64 (layO z : Int), .slice none 0 0, .slice a3 s.h.cpus c3] rfl rfl HNW.out (by simp [Value.oneCell']) (by decide) (by unfold maxLen; omega) (by omega) (Nat.zero_le _) _ rfl ?_; intro g9 cap9 wg ho9 hg9 hl9 hlt9; have q9 := (box_grown HSA.out.k HSA.out.r.hr.gs hg9 (fun e => HNE.out e.symm) 6).trans (show _ = some (.slice v1.a2 v1.ys.length v1.c2) from rfl); have f9 := frz_grown HSA.out.fz HSA.out.r.hr.gs hg9 (fun e => HNE.out e.symm) 6)
        obtain ⟨hs9', sf9⟩ := HSA.out.addC (y := (⟨some ⟨w7.heap.size, 0, none⟩, 1, 1, none, 0, 0, a3, s.h.cpus, c3, ⟨[n], z, layN z, layO z, [], List.replicate s.h.cpus (-1)⟩⟩ : Cc)) HO3.out HFR.out hg9 (by rw [flat_append, flat_one]; exact ho9) (by
          rcases hl9 with h1 | h1
          · exact .inl h1
          · exact .inr (Nat.le_of_eq h1.symm))
        have hex : ∃ v2, SS (wg.setCell ⟨w.heap.size, 6, none⟩ (.slice (some ⟨g9, 0, none⟩) (v1.ys.length + 1) cap9)) w.heap.size (fun k => k < w.heap.size ∨ k = w.heap.size + 1 ∨ k = w.heap.size + 2) s' v2 := ⟨_, by rw [HSS'.out]; exact hs9'⟩
        obtain ⟨v2, hse⟩ := hex
        have HSe := Hid.mk hse
        have HRe := Hid.mk (sf9.box HRA.out htA (.inr (.inr rfl)))
        have HUe := Hid.mk (sf9.frz HUA.out htA (.inr (.inr rfl)))
        have HBe := Hid.mk (Safe.after HBA.out sf9 (fun k hk => .inl hk) HBA.out.size)
        clear hs9' sf9 hse ho9 hg9 hl9 hlt9 q9 f9 HSA HRA HUA HBA HO3 HFR HCS HNE HNW x6 q0 q1 q2 q3 q4 q5 HSS' hl20 hs9
        generalize wg.setCell ⟨w.heap.size, 6, none⟩ (.slice (some ⟨g9, 0, none⟩) (v1.ys.length + 1) cap9) = we at *
        have x0 := HSe.out.k 0
        have x1 := HSe.out.k 1
        have x2 := HSe.out.k 2
        have x3 := HSe.out.k 3
        have x4 := HSe.out.k 4
        have x5 := HSe.out.k 5
        have x6 := HSe.out.k 6
        unfold Sc.vals at x0 x1 x2 x3 x4 x5 x6
        have y0 := HRe.out 0
        have y1 := HRe.out 1
        have y2 := HRe.out 2
        have y3 := HRe.out 3
        have y4 := HRe.out 4
        have y5 := HRe.out 5
        have y6 := HRe.out 6
        have f0 := HUe.out 0
        have f1 := HUe.out 1
        have f2 := HUe.out 2
        have f3 := HUe.out 3
        have f4 := HUe.out 4
        have f5 := HUe.out 5
        have f6 := HUe.out 6
        simp only [List.getElem?_toArray, List.getElem?_cons_zero, List.getElem?_cons_succ] at x0 x1 x2 x3 x4 x5 x6 y0 y1 y2 y3 y4 y5 y6
        have hle2 : w.heap.size ≤ w.heap.size + 1 + 1 := by omega
        have KX := (box_set (box_set (box_set (box_set (box_set (box_set (box_set HRe.out 0 (.slice v2.a1 v2.n1 v2.c1)) 1 (.slice v2.hc.az 2 v2.hc.cz)) 2 (.slice v2.hc.am 2 v2.hc.cm)) 3 (.int .i64 (s'.h.cpus : Int))) 4 (.slice v2.hc.al v2.hc.lc.length v2.hc.cl)) 5 (.slice v2.hc.av s'.h.live.length v2.hc.cv)) 6 (.slice v2.a2 v2.ys.length v2.c2))
        simp only [List.setIfInBounds_toArray, List.set_cons_zero, List.set_cons_succ] at KX
        have hX8 : (fun k => k < w.heap.size ∨ k = w.heap.size + 1 ∨ k = w.heap.size + 2) (w.heap.size + 1 + 1) := .inr (.inr rfl)
        have A0 := HSe.out
        have A1 := A0.farX hX8 0 (.slice v2.a1 v2.n1 v2.c1)
        have A2 := A1.farX hX8 1 (.slice v2.hc.az 2 v2.hc.cz)
        have A3 := A2.farX hX8 2 (.slice v2.hc.am 2 v2.hc.cm)
        have A4 := A3.farX hX8 3 (.int .i64 (s'.h.cpus : Int))
        have A5 := A4.farX hX8 4 (.slice v2.hc.al v2.hc.lc.length v2.hc.cl)
        have A6 := A5.farX hX8 5 (.slice v2.hc.av s'.h.live.length v2.hc.cv)
        have A7 := A6.farX hX8 6 (.slice v2.a2 v2.ys.length v2.c2)
        have HSX := Hid.mk (A7.sub (Y := fun k => k < w.heap.size) (fun k hk => .inl hk)).r
        have HBX := Hid.mk (Below.setCell (Below.setCell (Below.setCell (Below.setCell (Below.setCell (Below.setCell (Below.setCell HBe.out (show w.heap.size ≤ (⟨w.heap.size + 1 + 1, 0, none⟩ : Addr).block from hle2) (.slice v2.a1 v2.n1 v2.c1)) (show w.heap.size ≤ (⟨w.heap.size + 1 + 1, 1, none⟩ : Addr).block from hle2) (.slice v2.hc.az 2 v2.hc.cz)) (show w.heap.size ≤ (⟨w.heap.size + 1 + 1, 2, none⟩ : Addr).block from hle2) (.slice v2.hc.am 2 v2.hc.cm)) (show w.heap.size ≤ (⟨w.heap.size + 1 + 1, 3, none⟩ : Addr).block from hle2) (.int .i64 (s'.h.cpus : Int))) (show w.heap.size ≤ (⟨w.heap.size + 1 + 1, 4, none⟩ : Addr).block from hle2) (.slice v2.hc.al v2.hc.lc.length v2.hc.cl)) (show w.heap.size ≤ (⟨w.heap.size + 1 + 1, 5, none⟩ : Addr).block from hle2) (.slice v2.hc.av s'.h.live.length v2.hc.cv)) (show w.heap.size ≤ (⟨w.heap.size + 1 + 1, 6, none⟩ : Addr).block from hle2) (.slice v2.a2 v2.ys.length v2.c2))
        clear A0 A1 A2 A3 A4 A5 A6 A7 hX8
        go_wp2_with fail
        generalize ((((((we.setCell ⟨w.heap.size + 1 + 1, 0, none⟩ (.slice v2.a1 v2.n1 v2.c1)).setCell ⟨w.heap.size + 1 + 1, 1, none⟩ (.slice v2.hc.az 2 v2.hc.cz)).setCell ⟨w.heap.size + 1 + 1, 2, none⟩ (.slice v2.hc.am 2 v2.hc.cm)).setCell ⟨w.heap.size + 1 + 1, 3, none⟩ (.int .i64 (s'.h.cpus : Int))).setCell ⟨w.heap.size + 1 + 1, 4, none⟩ (.slice v2.hc.al v2.hc.lc.length v2.hc.cl)).setCell ⟨w.heap.size + 1 + 1, 5, none⟩ (.slice v2.hc.av s'.h.live.length v2.hc.cv)).setCell ⟨w.heap.size + 1 + 1, 6, none⟩ (.slice v2.a2 v2.ys.length v2.c2) = wx at *
        exact bodyPost_ret (v := .tuple #[.agg #[.slice v2.a1 v2.n1 v2.c1, .slice v2.hc.az 2 v2.hc.cz, .slice v2.hc.am 2 v2.hc.cm, .int .i64 (s'.h.cpus : Int), .slice v2.hc.al v2.hc.lc.length v2.hc.cl, .slice v2.hc.av s'.h.live.length v2.hc.cv, .slice v2.a2 v2.ys.length v2.c2], .int .i64 0]) (by simp [results, Tryz.results9, go_sem, KX]) rfl ⟨v2, rfl, HSX.out, HBX.out⟩
end Go.Proofs.YtkcaheebaicinaaGreatDoor
