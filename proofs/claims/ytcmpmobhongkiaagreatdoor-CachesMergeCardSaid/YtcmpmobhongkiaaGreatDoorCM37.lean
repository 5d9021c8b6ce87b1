/- texts of this claim, joined. -/
import Derived.Test.YtcmpmobhongkiaaGreatDoorCM0
import Derived.Test.YtcmpmobhongkiaaGreatDoorCM20
import Derived.Test.YtcmpmobhongkiaaGreatDoorCM35
import Derived.Test.YtcmpmobhongkiaaGreatDoorCM36
set_option linter.unusedVariables false
set_option linter.unusedSimpArgs false
namespace Go.Proofs.YtcmpmobhongkiaaGreatDoor
section
open Go.RowKit

theorem JB (y : Cc) (z : Nat) (B : Nat) (W : World) (hB : B < W.heap.size) (hc : W.cell? ⟨B, 0, none⟩ = some (.int .i64 z)) :
  Calls Tryz.prog 67 (#[.agg (bV y).toArray] ++ #[.pointer (some ⟨B, 0, none⟩)]) W fun ev w' => ev = .returned (.bool (decide (y.c.z = z))) ∧ Below W.heap.size W w' := by
 show Calls Tryz.prog 67 #[.agg #[.slice y.a1 y.n1 y.c1, .int .i64 y.c.z, .int .i64 y.c.r, .int .i64 y.c.o, .slice y.a2 y.n2 y.c2, .slice y.a3 y.n3 y.c3], .pointer (some ⟨B, 0, none⟩)] W _
 have hb := aB W (.cells #[.slice y.a1 y.n1 y.c1, .int .i64 (y.c.z : Int), .int .i64 (y.c.r : Int), .int .i64 (y.c.o : Int), .slice y.a2 y.n2 y.c2, .slice y.a3 y.n3 y.c3] 94)
 have K := bC W #[.slice y.a1 y.n1 y.c1, .int .i64 (y.c.z : Int), .int .i64 (y.c.r : Int), .int .i64 (y.c.o : Int), .slice y.a2 y.n2 y.c2, .slice y.a3 y.n3 y.c3] 94
 have k1 := K 1
 simp only [gB, gC, gD] at k1
 have hc2 := (hb.cell (p := ⟨B, 0, none⟩) hB).trans hc
 have HB := gO hb
 clear hb K hc
 go_enter Tryz.func67, Tryz.ntmps67
 go_wp2
 go_ret
 exact ⟨aW (by rw [Bool.eq_iff_iff]; simp only [beq_iff_eq, decide_eq_true_eq]; omega), HB.out⟩

def En (s' : Sy) (w : World) (ev : Ending) (w' : World) : Prop := ∃ v', ev = .returned (.tuple #[.agg (v'.vals s'), .int .i64 0]) ∧ kH w' w.heap.size s' v' ∧ Below w.heap.size w w'

set_option maxHeartbeats 8000000 in
set_option maxRecDepth 100000 in
theorem tN (v : Sc) (s s' : Sy) (n : List UInt8) (z : Nat) (w : World) (hs : rP w v s) (hk : fC s) (hf : ∀ c ∈ s.cs, c.ns.length ≤ 999) (hnm : nameB n = true) (hz : 1 ≤ z ∧ z ≤ 64) (hno : s.named n = none) (hcr : s.create n z = some s') :
  Calls Tryz.prog 31 #[.agg #[.slice v.a1 v.n1 v.c1, .slice v.hc.az 2 v.hc.cz, .slice v.hc.am 2 v.hc.cm, .int .i64 (s.h.aF : Int), .slice v.hc.al v.hc.lc.length v.hc.cl, .slice v.hc.av s.h.live.length v.hc.cv, .slice v.a2 v.ys.length v.c2], .string ⟨n.toArray⟩, .int .i64 z, .int .i64 1] w (En s' w) := by
 have hf2 : ∀ c ∈ s.cs, c.ns.length ≤ 1000 := fun c hc => Nat.le_succ_of_le (hf c hc)
 obtain ⟨K1, K2, K3, F1, F2, F3, hsz, hbw⟩ := boxes3 w #[.slice v.a1 v.n1 v.c1, .slice v.hc.az 2 v.hc.cz, .slice v.hc.am 2 v.hc.cm, .int .i64 (s.h.aF : Int), .slice v.hc.al v.hc.lc.length v.hc.cl, .slice v.hc.av s.h.live.length v.hc.cv, .slice v.a2 v.ys.length v.c2] 47 #[.int .i64 (z : Int)] 3 #[.slice none 0 0, .slice none 0 0, .slice none 0 0, .int .i64 0, .slice none 0 0, .slice none 0 0, .slice none 0 0] 47
 have hs1 := hs.below hbw
 have hyl : v.ys.length ≤ 20 := by have := congrArg List.length hs.cy; rw [List.length_map] at this; rw [this]; exact hk.cl
 have hn8 : n.length ≤ 8 := by
  unfold nameB at hnm
  simp only [Bool.and_eq_true, decide_eq_true_eq] at hnm
  exact hnm.1.2
 have Vp : Hid (∀ W, Calls Tryz.prog 64 #[.string ⟨n.toArray⟩] W fun ev w' => ev = .returned (.bool true) ∧ Below W.heap.size W w') := fun W => by
  have h := yV n W (by omega)
  rw [hnm] at h
  exact h
 have hfi : bZ (fun c : Ca => c.ns.contains n) s.cs = -1 := by
  unfold Sy.named at hno
  unfold bZ
  rw [hno]
 have qL : Hid (∀ W, Below (((w.alloc (.cells #[.slice v.a1 v.n1 v.c1, .slice v.hc.az 2 v.hc.cz, .slice v.hc.am 2 v.hc.cm, .int .i64 (s.h.aF : Int), .slice v.hc.al v.hc.lc.length v.hc.cl, .slice v.hc.av s.h.live.length v.hc.cv, .slice v.a2 v.ys.length v.c2] 47)).alloc (.cells #[.int .i64 (z : Int)] 3)).alloc (.cells #[.slice none 0 0, .slice none 0 0, .slice none 0 0, .int .i64 0, .slice none 0 0, .slice none 0 0, .slice none 0 0] 47)).heap.size (((w.alloc (.cells #[.slice v.a1 v.n1 v.c1, .slice v.hc.az 2 v.hc.cz, .slice v.hc.am 2 v.hc.cm, .int .i64 (s.h.aF : Int), .slice v.hc.al v.hc.lc.length v.hc.cl, .slice v.hc.av s.h.live.length v.hc.cv, .slice v.a2 v.ys.length v.c2] 47)).alloc (.cells #[.int .i64 (z : Int)] 3)).alloc (.cells #[.slice none 0 0, .slice none 0 0, .slice none 0 0, .int .i64 0, .slice none 0 0, .slice none 0 0, .slice none 0 0] 47)) W → Calls Tryz.prog 38 #[.agg #[.slice v.a1 v.n1 v.c1, .slice v.hc.az 2 v.hc.cz, .slice v.hc.am 2 v.hc.cm, .int .i64 (s.h.aF : Int), .slice v.hc.al v.hc.lc.length v.hc.cl, .slice v.hc.av s.h.live.length v.hc.cv, .slice v.a2 v.ys.length v.c2]] W fun ev w' => ev = .returned (.int .i64 0) ∧ Below W.heap.size W w') := fun W hW => rE v s W (hs1.below hW) hk hf2
 have HNA : Hid (∀ W, Below (((w.alloc (.cells #[.slice v.a1 v.n1 v.c1, .slice v.hc.az 2 v.hc.cz, .slice v.hc.am 2 v.hc.cm, .int .i64 (s.h.aF : Int), .slice v.hc.al v.hc.lc.length v.hc.cl, .slice v.hc.av s.h.live.length v.hc.cv, .slice v.a2 v.ys.length v.c2] 47)).alloc (.cells #[.int .i64 (z : Int)] 3)).alloc (.cells #[.slice none 0 0, .slice none 0 0, .slice none 0 0, .int .i64 0, .slice none 0 0, .slice none 0 0, .slice none 0 0] 47)).heap.size (((w.alloc (.cells #[.slice v.a1 v.n1 v.c1, .slice v.hc.az 2 v.hc.cz, .slice v.hc.am 2 v.hc.cm, .int .i64 (s.h.aF : Int), .slice v.hc.al v.hc.lc.length v.hc.cl, .slice v.hc.av s.h.live.length v.hc.cv, .slice v.a2 v.ys.length v.c2] 47)).alloc (.cells #[.int .i64 (z : Int)] 3)).alloc (.cells #[.slice none 0 0, .slice none 0 0, .slice none 0 0, .int .i64 0, .slice none 0 0, .slice none 0 0, .slice none 0 0] 47)) W → Calls Tryz.prog 65 #[.agg #[.slice v.a1 v.n1 v.c1, .slice v.hc.az 2 v.hc.cz, .slice v.hc.am 2 v.hc.cm, .int .i64 (s.h.aF : Int), .slice v.hc.al v.hc.lc.length v.hc.cl, .slice v.hc.av s.h.live.length v.hc.cv, .slice v.a2 v.ys.length v.c2], .string ⟨n.toArray⟩] W fun ev w' => ev = .returned (.tuple #[.int .i64 (-1), .bool false]) ∧ Below W.heap.size W w') := fun W hW => by
  have h := xB v s n W (hs1.below hW) hf2 hyl
  rw [hfi] at h
  exact h
 have HCP : Hid (∀ W, Below w.heap.size w W → Calls Tryz.prog 39 #[.agg #[.slice v.a1 v.n1 v.c1, .slice v.hc.az 2 v.hc.cz, .slice v.hc.am 2 v.hc.cm, .int .i64 (s.h.aF : Int), .slice v.hc.al v.hc.lc.length v.hc.cl, .slice v.hc.av s.h.live.length v.hc.cv, .slice v.a2 v.ys.length v.c2]] W fun ev w' => ∃ v', ev = .returned (.agg (v'.vals s)) ∧ kH w' W.heap.size s v' ∧ Below W.heap.size W w') := fun W hW => Gs v s W (hs.below hW) hk hf2
 have HK := gO hk
 have HF := gO hf
 have HB1 := gO hbw
 have HK1 := gO K1
 have HF1 := gO F1
 have HK2 := gO K2
 have HF2 := gO F2
 have HK3 := gO K3
 have HF3 := gO F3
 have hsz1 : w.heap.size < (((w.alloc (.cells #[.slice v.a1 v.n1 v.c1, .slice v.hc.az 2 v.hc.cz, .slice v.hc.am 2 v.hc.cm, .int .i64 (s.h.aF : Int), .slice v.hc.al v.hc.lc.length v.hc.cl, .slice v.hc.av s.h.live.length v.hc.cv, .slice v.a2 v.ys.length v.c2] 47)).alloc (.cells #[.int .i64 (z : Int)] 3)).alloc (.cells #[.slice none 0 0, .slice none 0 0, .slice none 0 0, .int .i64 0, .slice none 0 0, .slice none 0 0, .slice none 0 0] 47)).heap.size := by omega
 have hsz2 : w.heap.size + 1 < (((w.alloc (.cells #[.slice v.a1 v.n1 v.c1, .slice v.hc.az 2 v.hc.cz, .slice v.hc.am 2 v.hc.cm, .int .i64 (s.h.aF : Int), .slice v.hc.al v.hc.lc.length v.hc.cl, .slice v.hc.av s.h.live.length v.hc.cv, .slice v.a2 v.ys.length v.c2] 47)).alloc (.cells #[.int .i64 (z : Int)] 3)).alloc (.cells #[.slice none 0 0, .slice none 0 0, .slice none 0 0, .int .i64 0, .slice none 0 0, .slice none 0 0, .slice none 0 0] 47)).heap.size := by omega
 have HCR := gO hcr
 have HZ := gO hz
 have hz1 : ¬ (z : Int) < 1 := by omega
 have hz2 : ¬ (64 : Int) < z := by omega
 have k0 := HK1.out 0
 have k1 := HK1.out 1
 have k2 := HK1.out 2
 have k3 := HK1.out 3
 have k4 := HK1.out 4
 have k5 := HK1.out 5
 have k6 := HK1.out 6
 have q0 := HK2.out 0
 simp only [gB, gC, gD] at k0 k1 k2 k3 k4 k5 k6 q0
 clear hs hk hf hf2 hs1 hbw K1 K2 K3 F1 F2 F3 hno hfi hnm hcr hz
 go_enter Tryz.func31, Tryz.ntmps31
 go_upto_region 1 with fail
 generalize ((w.alloc (.cells #[.slice v.a1 v.n1 v.c1, .slice v.hc.az 2 v.hc.cz, .slice v.hc.am 2 v.hc.cm, .int .i64 (s.h.aF : Int), .slice v.hc.al v.hc.lc.length v.hc.cl, .slice v.hc.av s.h.live.length v.hc.cv, .slice v.a2 v.ys.length v.c2] 47)).alloc (.cells #[.int .i64 (z : Int)] 3)).alloc (.cells #[.slice none 0 0, .slice none 0 0, .slice none 0 0, .int .i64 0, .slice none 0 0, .slice none 0 0, .slice none 0 0] 47) = w3 at *
 have LQ : ∀ W, Below w3.heap.size w3 W → W.cell? ⟨w.heap.size + 1, 0, none⟩ = some (.int .i64 (z : Int)) := fun W h => (h.cell (p := ⟨w.heap.size + 1, 0, none⟩) hsz2).trans q0
 go_upto_region 6 with (first | (go_at_call 38; refine (qL.out _ (Below.refl _ _)).mono ?_; rintro ev wa ⟨rfl, hba⟩) | (go_at_call 64; refine (Vp.out _).mono ?_; rintro ev wb ⟨rfl, hbb⟩))
 have Eo := Below.step hba hbb
 have qb := LQ wb Eo
 have Kb := aC HK1.out hsz1 Eo
 clear k0 k1 k2 k3 k4 k5 k6 q0
 obtain ⟨k0, k1, k2, k3, k4, k5, k6⟩ := gA7 Kb
 have JC := gO Eo
 clear Kb hba hbb Eo
 go_upto_region 9 with (go_at_call 65; refine (HNA.out _ JC.out).mono ?_; rintro ev wn ⟨rfl, hbn⟩)
 have tV := gO (Below.step JC.out hbn)
 have qn := LQ wn tV.out
 have fn := (aJ HF2.out hsz2 tV.out) 0
 have Kn := aC HK1.out hsz1 tV.out
 clear k0 k1 k2 k3 k4 k5 k6 qb
 obtain ⟨k0, k1, k2, k3, k4, k5, k6⟩ := gA7 Kn
 clear hbn
 go_upto_region 12 with fail
 have hne01 : w.heap.size ≠ w.heap.size + 1 := by omega
 have hne1 : w.heap.size + 1 ≠ w.heap.size := by omega
 have hne2 : w.heap.size + 2 ≠ w.heap.size := by omega
 have aAr : w.heap.size + 2 ≠ w.heap.size + 1 := by omega
 have hsw : w.heap.size ≤ w3.heap.size := gR hsz1
 have nD := gO (Below.setCell (Below.trans HB1.out (tV.out.mono hsw)) (show w.heap.size ≤ (⟨w.heap.size + 1, 0, none⟩ : Addr).block from Nat.le_succ _) (.int .i64 (z : Int)))
 have Kq := aA Kn hne01 0 (.int .i64 (z : Int))
 have Fq := aH (aJ HF1.out hsz1 tV.out) ⟨w.heap.size + 1, 0, none⟩ (.int .i64 (z : Int))
 have K2q := aG (aC HK2.out hsz2 tV.out) 0 (.int .i64 (z : Int))
 simp only [gE, gG] at K2q
 have F2q := aH (aJ HF2.out hsz2 tV.out) ⟨w.heap.size + 1, 0, none⟩ (.int .i64 (z : Int))
 have K3q := aA (aC HK3.out hsz tV.out) aAr 0 (.int .i64 (z : Int))
 have F3q := aH (aJ HF3.out hsz tV.out) ⟨w.heap.size + 1, 0, none⟩ (.int .i64 (z : Int))
 have WR : w.heap.size + 2 < (wn.setCell ⟨w.heap.size + 1, 0, none⟩ (.int .i64 (z : Int))).heap.size := by
  have := tV.out.size
  simp
  omega
 have HKq := gO Kq
 have HFq := gO Fq
 have aAs := gO K2q
 have aAt := gO F2q
 have aAu := gO K3q
 have aAv := gO F3q
 clear k0 k1 k2 k3 k4 k5 k6 qn fn Kn Kq Fq K2q F2q K3q F3q LQ HNA qL Vp tV JC HK1 HF1 HK2 HF2 HK3 HF3
 generalize wn.setCell ⟨w.heap.size + 1, 0, none⟩ (.int .i64 (z : Int)) = wq at *
 obtain ⟨k0, k1, k2, k3, k4, k5, k6⟩ := gA7 HKq.out
 have LG : w.heap.size < wq.heap.size := by omega
 go_upto_region 13 with (go_at_call 39; refine (HCP.out _ nD.out).mono ?_; rintro ev w5 ⟨v1, he, hnew, hb5⟩; unfold Sc.vals at he; subst he; have K15 := aC HKq.out LG hb5; have F15 := aJ HFq.out LG hb5; obtain ⟨y0, y1, y2, y3, y4, y5, y6⟩ := gA7 K15; obtain ⟨f0, f1, f2, f3, f4, f5, f6⟩ := gF7 F15; skip)
 have Ai : SR w5 w.heap.size (fun k => k < w.heap.size ∨ k = w.heap.size + 1 ∨ k = w.heap.size + 2) s v1 := SR.lift hnew LG (fun k hk => by omega) (by omega)
 have hfin := SS.put7 Ai K15 F15
 have HS6 := gO hfin
 have Vw : w.heap.size + 1 < wq.heap.size := by omega
 have P0 := aC aAs.out Vw hb5
 have Q0 := aJ aAt.out Vw hb5
 have R0 := aC aAu.out WR hb5
 have U0 := aJ aAv.out WR hb5
 have P1 := aA P0 hne1 0 (.slice v1.a1 v1.n1 v1.c1)
 have Q1 := aH Q0 ⟨w.heap.size, 0, none⟩ (.slice v1.a1 v1.n1 v1.c1)
 have R1 := aA R0 hne2 0 (.slice v1.a1 v1.n1 v1.c1)
 have U1 := aH U0 ⟨w.heap.size, 0, none⟩ (.slice v1.a1 v1.n1 v1.c1)
 have P2 := aA P1 hne1 1 (.slice v1.hc.az 2 v1.hc.cz)
 have Q2 := aH Q1 ⟨w.heap.size, 1, none⟩ (.slice v1.hc.az 2 v1.hc.cz)
 have R2 := aA R1 hne2 1 (.slice v1.hc.az 2 v1.hc.cz)
 have U2 := aH U1 ⟨w.heap.size, 1, none⟩ (.slice v1.hc.az 2 v1.hc.cz)
 have P3 := aA P2 hne1 2 (.slice v1.hc.am 2 v1.hc.cm)
 have Q3 := aH Q2 ⟨w.heap.size, 2, none⟩ (.slice v1.hc.am 2 v1.hc.cm)
 have R3 := aA R2 hne2 2 (.slice v1.hc.am 2 v1.hc.cm)
 have U3 := aH U2 ⟨w.heap.size, 2, none⟩ (.slice v1.hc.am 2 v1.hc.cm)
 have P4 := aA P3 hne1 3 (.int .i64 (s.h.aF : Int))
 have Q4 := aH Q3 ⟨w.heap.size, 3, none⟩ (.int .i64 (s.h.aF : Int))
 have R4 := aA R3 hne2 3 (.int .i64 (s.h.aF : Int))
 have U4 := aH U3 ⟨w.heap.size, 3, none⟩ (.int .i64 (s.h.aF : Int))
 have P5 := aA P4 hne1 4 (.slice v1.hc.al v1.hc.lc.length v1.hc.cl)
 have Q5 := aH Q4 ⟨w.heap.size, 4, none⟩ (.slice v1.hc.al v1.hc.lc.length v1.hc.cl)
 have R5 := aA R4 hne2 4 (.slice v1.hc.al v1.hc.lc.length v1.hc.cl)
 have U5 := aH U4 ⟨w.heap.size, 4, none⟩ (.slice v1.hc.al v1.hc.lc.length v1.hc.cl)
 have P6 := aA P5 hne1 5 (.slice v1.hc.av s.h.live.length v1.hc.cv)
 have Q6 := aH Q5 ⟨w.heap.size, 5, none⟩ (.slice v1.hc.av s.h.live.length v1.hc.cv)
 have R6 := aA R5 hne2 5 (.slice v1.hc.av s.h.live.length v1.hc.cv)
 have U6 := aH U5 ⟨w.heap.size, 5, none⟩ (.slice v1.hc.av s.h.live.length v1.hc.cv)
 have P7 := aA P6 hne1 6 (.slice v1.a2 v1.ys.length v1.c2)
 have Q7 := aH Q6 ⟨w.heap.size, 6, none⟩ (.slice v1.a2 v1.ys.length v1.c2)
 have R7 := aA R6 hne2 6 (.slice v1.a2 v1.ys.length v1.c2)
 have U7 := aH U6 ⟨w.heap.size, 6, none⟩ (.slice v1.a2 v1.ys.length v1.c2)
 have HP := gO P7
 have HQ := gO Q7
 have HR := gO R7
 have HU := gO U7
 have HB5 := gO (Below.trans nD.out (hb5.mono (gR LG)))
 have HB6 := gO (Below.setCell (Below.setCell (Below.setCell (Below.setCell (Below.setCell (Below.setCell (Below.setCell HB5.out (show w.heap.size ≤ (⟨w.heap.size, 0, none⟩ : Addr).block from Nat.le_refl _) (.slice v1.a1 v1.n1 v1.c1)) (show w.heap.size ≤ (⟨w.heap.size, 1, none⟩ : Addr).block from Nat.le_refl _) (.slice v1.hc.az 2 v1.hc.cz)) (show w.heap.size ≤ (⟨w.heap.size, 2, none⟩ : Addr).block from Nat.le_refl _) (.slice v1.hc.am 2 v1.hc.cm)) (show w.heap.size ≤ (⟨w.heap.size, 3, none⟩ : Addr).block from Nat.le_refl _) (.int .i64 (s.h.aF : Int))) (show w.heap.size ≤ (⟨w.heap.size, 4, none⟩ : Addr).block from Nat.le_refl _) (.slice v1.hc.al v1.hc.lc.length v1.hc.cl)) (show w.heap.size ≤ (⟨w.heap.size, 5, none⟩ : Addr).block from Nat.le_refl _) (.slice v1.hc.av s.h.live.length v1.hc.cv)) (show w.heap.size ≤ (⟨w.heap.size, 6, none⟩ : Addr).block from Nat.le_refl _) (.slice v1.a2 v1.ys.length v1.c2))
 have Np : w.heap.size + 2 < ((((((((w5.setCell ⟨w.heap.size, 0, none⟩ (.slice v1.a1 v1.n1 v1.c1)).setCell ⟨w.heap.size, 1, none⟩ (.slice v1.hc.az 2 v1.hc.cz)).setCell ⟨w.heap.size, 2, none⟩ (.slice v1.hc.am 2 v1.hc.cm)).setCell ⟨w.heap.size, 3, none⟩ (.int .i64 (s.h.aF : Int))).setCell ⟨w.heap.size, 4, none⟩ (.slice v1.hc.al v1.hc.lc.length v1.hc.cl)).setCell ⟨w.heap.size, 5, none⟩ (.slice v1.hc.av s.h.live.length v1.hc.cv)).setCell ⟨w.heap.size, 6, none⟩ (.slice v1.a2 v1.ys.length v1.c2))).heap.size := by
  have := hb5.size
  simp
  omega
 clear y0 y1 y2 y3 y4 y5 y6 f0 f1 f2 f3 f4 f5 f6 K15 F15 Ai hfin hnew k0 k1 k2 k3 k4 k5 k6 P0 P1 P2 P3 P4 P5 P6 P7 Q0 Q1 Q2 Q3 Q4 Q5 Q6 Q7 R0 R1 R2 R3 R4 R5 R6 R7 U0 U1 U2 U3 U4 U5 U6 U7 HB5 hb5 HKq HFq aAs aAt aAu aAv HCP nD
 generalize ((((((w5.setCell ⟨w.heap.size, 0, none⟩ (.slice v1.a1 v1.n1 v1.c1)).setCell ⟨w.heap.size, 1, none⟩ (.slice v1.hc.az 2 v1.hc.cz)).setCell ⟨w.heap.size, 2, none⟩ (.slice v1.hc.am 2 v1.hc.cm)).setCell ⟨w.heap.size, 3, none⟩ (.int .i64 (s.h.aF : Int))).setCell ⟨w.heap.size, 4, none⟩ (.slice v1.hc.al v1.hc.lc.length v1.hc.cl)).setCell ⟨w.heap.size, 5, none⟩ (.slice v1.hc.av s.h.live.length v1.hc.cv)).setCell ⟨w.heap.size, 6, none⟩ (.slice v1.a2 v1.ys.length v1.c2) = w6 at *
 have p0 := HP.out 0
 have x6 := HS6.out.k 6
 unfold Sc.vals at x6
 simp only [gB, gC, gD] at p0 x6
 have eg : ∀ args w, (callFunc 67 args).run Tryz.prog w = .ok (.enter 67 args) w := enters_of Tryz.func67 (by kernel_rfl) rfl
 have hv1 : v1.ys.length ≤ 20 := by
  have h := congrArg List.length HS6.out.r.cy
  simp only [List.length_map] at h
  rw [h]
  exact HK.out.cl
 have hfz : bZ (fun y : Cc => decide (y.c.z = z)) v1.ys = bZ (fun c : Ca => decide (c.z = z)) s.cs := by
  rw [← HS6.out.r.cy]
  unfold bZ
  rw [List.findIdx?_map]
  rfl
 have aAw := HS6.out.r.at
 have hcall := qC v1.a2 v1.ys.length v1.c2 v1.ys 67 #[.pointer (some ⟨w.heap.size + 1, 0, none⟩)] (fun y => decide (y.c.z = z)) w6 rfl (by omega) aAw.rc eg (fun W hW y hy => JB y z (w.heap.size + 1) W (by have := hW.size; omega) ((hW.cell (p := ⟨w.heap.size + 1, 0, none⟩) (by show w.heap.size + 1 < w6.heap.size; omega)).trans p0))
 rw [hfz] at hcall
 have Yu := gO hcall
 clear hcall eg aAw hfz
 go_upto_region 14 with (go_at_call 66; refine Yu.out.mono ?_; rintro ev w7 ⟨rfl, hb7⟩)
 have HS7 := gO (HS6.out.below hb7)
 have hw6 : w.heap.size + 1 + 1 < w6.heap.size := Np
 have HR7 := gO (aC HR.out hw6 hb7)
 have HU7 := gO (aJ HU.out hw6 hb7)
 have HP7 := gO (aC HP.out (show w.heap.size + 1 < w6.heap.size by omega) hb7)
 have HB7 := gO (HB6.out.trans (hb7.mono (show w.heap.size ≤ w6.heap.size by omega)))
 have hw7 : w.heap.size + 1 + 1 < w7.heap.size := gI hw6 hb7.size
 clear Yu p0 x6 HS6 HP HQ HR HU HB6 Np hb7 hw6
 cases hfd : s.cs.findIdx? (fun c => decide (c.z = z)) with
 | some i =>
  have hi : i < s.cs.length := by
   rw [List.findIdx?_eq_some_iff_getElem] at hfd
   exact hfd.1
  have hfe : bZ (fun c : Ca => decide (c.z = z)) s.cs = (i : Int) := by
   unfold bZ
   rw [hfd]
  have hi1 : i < v1.ys.length := by
   have h := congrArg List.length HS7.out.r.cy
   simp only [List.length_map] at h
   omega
  have hci : v1.ys[i].c = s.cs[i] := by
   have h1 := congrArg (·[i]?) HS7.out.r.cy
   simp [hi1, hi] at h1
   exact h1
  have hs' : s' = s.dU i { s.cs[i] with ns := s.cs[i].ns.take (uH s.cs[i].ns n) ++ n :: s.cs[i].ns.drop (uH s.cs[i].ns n) } := by
   have h := HCR.out
   unfold Sy.create at h
   rw [hfd] at h
   simp only [gJ hi] at h
   exact (gP h).symm
  have hck := HK.out.ck _ (gL hi)
  have hfn := HF.out _ (gL hi)
  rw [← hci] at hs' hck hfn
  rw [hfe]
  obtain ⟨gc, ha2, kU, Ej, Jv, hcc⟩ := HS7.out.r.KH hi1
  obtain ⟨hr1, hr2, hr3⟩ := HS7.out.r.y (gL hi1)
  obtain ⟨y, hy⟩ : ∃ y, v1.ys[i] = y := ⟨_, rfl⟩
  have HY := gO hy
  rw [hy] at hcc hr1 hs' hck hfn
  have aAx := HS7.out.r.Vu hi1 hy ha2
  have hl1 : y.c.ns.length = y.n1 := aZ aU (by decide) hr1
  have hn1 : y.n1 ≤ 999 := by omega
  have b0 := (hcc 0 (by decide)).1
  have f0 := (hcc 0 (by decide)).2
  simp only [bV, vI, gC, gD, Nat.add_zero] at b0 f0
  have x6 := HS7.out.k 6
  unfold Sc.vals at x6
  simp only [gB, gC, gD] at x6
  rw [ha2] at x6
  have hii : (i : Int) < v1.ys.length := by omega
  have hi0 : (0 : Int) ≤ i := by omega
  have QV := gO (LD y.a1 y.n1 y.c1 y.c.ns n w7 hl1 (by omega) (aY hr1) hck.nr)
  have NY := gO hs'
  have HR1 := gO hr1
  have hle := QT y.c.ns n
  have HL1 := gO hl1
  have HA2 := gO ha2
  have HGN := gO aAx
  clear hr2 hr3 hcc hr1 hy hs' hck hfn hci hfe hl1 hfd ha2 aAx
  go_upto_region 17 with (go_at_call 68; refine QV.out.mono ?_; rintro ev w8 ⟨bb, rfl, rfl⟩)
  obtain ⟨K, hK⟩ : ∃ K, uH y.c.ns n = K := ⟨_, rfl⟩
  rw [hK] at hle NY ⊢
  clear QV hK
  have ba := aB w7 (.cells #[.string ⟨n.toArray⟩] 9)
  have HS8 := gO (HS7.out.below ba)
  have HR18 : Hid ((mQ y).on (w7.alloc (.cells #[.string ⟨n.toArray⟩] 9)) 0) := own_below HR1.out ba (Nat.le_refl _)
  have SE : Hid ((w7.alloc (.cells #[.string ⟨n.toArray⟩] 9)).heap[w7.heap.size]? = some (.cells (encS n).toArray 9 (0, 0))) := heap_alloc_new w7 _
  have SG : Hid (some w7.heap.size ≠ Value.ownBlock (.slice y.a1 y.n1 y.c1)) := fun e => (own_ne HR1.out (.inr (Nat.le_refl _))) e.symm
  have aAy : gc < (w7.alloc (.cells #[.string ⟨n.toArray⟩] 9)).heap.size := gI kU ba.size
  have HX8 := gO ((ba.cell (p := ⟨gc, i * 6, none⟩) kU).trans b0)
  have HY8 := gO ((ba.frozen (p := ⟨gc, i * 6, none⟩) kU).trans f0)
  have Um : Hid (some gc ≠ (Value.slice y.a1 y.n1 y.c1).ownBlock) := fun e => HGN.out e.symm
  have hKn : K ≤ y.n1 := by rw [← HL1.out]; exact hle
  have CS := gO ba
  clear ba HR1
  go_upto_region 18 with (go_at_call 69; refine (PV 0 y.a1 y.n1 y.c1 w7.heap.size K y.c.ns n _ HR18.out hKn (by omega) (Nat.zero_le _) SE.out SG.out).mono ?_; rintro ev w9 ⟨an, cn, rfl, Vx, hg9, hl9⟩; have q4 := (World.cell?_of_block (w := w7.alloc (.cells #[.string ⟨n.toArray⟩] 9)) (a := ⟨gc, i * 6, none⟩) (hg9.block gc aAy Um.out)).trans HX8.out; have p4 := (World.frozen?_of_block (w := w7.alloc (.cells #[.string ⟨n.toArray⟩] 9)) (a := ⟨gc, i * 6, none⟩) (hg9.block gc aAy Um.out)).trans HY8.out)
  obtain ⟨v2, t1, t2, t3⟩ := HS8.out.QU hi1 HY.out Vx hg9 hl9 HA2.out
  have hsf := (Safe.fP (X := fun k => k < w.heap.size ∨ k = w.heap.size + 1 ∨ k = w.heap.size + 2) CS.out).trans t2
  have GI := gO (hsf.box HR7.out hw7 (.inr (.inr rfl)))
  have HUe := gO (hsf.Pg HU7.out hw7 (.inr (.inr rfl)))
  have HBe := gO (Safe.after HB7.out hsf (fun k hk => .inl hk) HB7.out.size)
  rw [← NY.out] at t1
  have GK := gO t1
  clear t1 t2 t3 hsf q4 p4 Vx hg9 hl9 HS8 HR18 SE SG HX8 HY8 Um CS HS7 HR7 HU7 HP7 HB7 b0 f0 x6 NY
  generalize w9.setCell ⟨gc, i * 6, none⟩ (.slice an (y.n1 + 1) cn) = we at *
  have x0 := GK.out.k 0
  have x1 := GK.out.k 1
  have x2 := GK.out.k 2
  have x3 := GK.out.k 3
  have x4 := GK.out.k 4
  have x5 := GK.out.k 5
  have x6 := GK.out.k 6
  unfold Sc.vals at x0 x1 x2 x3 x4 x5 x6
  have y0 := GI.out 0
  have y1 := GI.out 1
  have y2 := GI.out 2
  have y3 := GI.out 3
  have y4 := GI.out 4
  have y5 := GI.out 5
  have y6 := GI.out 6
  obtain ⟨f0, f1, f2, f3, f4, f5, f6⟩ := gF7 HUe.out
  simp only [gB, gC, gD] at x0 x1 x2 x3 x4 x5 x6 y0 y1 y2 y3 y4 y5 y6
  have hle2 : w.heap.size ≤ w.heap.size + 1 + 1 := by omega
  have KX := (aG (aG (aG (aG (aG (aG (aG GI.out 0 (.slice v2.a1 v2.n1 v2.c1)) 1 (.slice v2.hc.az 2 v2.hc.cz)) 2 (.slice v2.hc.am 2 v2.hc.cm)) 3 (.int .i64 (s'.h.aF : Int))) 4 (.slice v2.hc.al v2.hc.lc.length v2.hc.cl)) 5 (.slice v2.hc.av s'.h.live.length v2.hc.cv)) 6 (.slice v2.a2 v2.ys.length v2.c2))
  simp only [gE, gG, gH] at KX
  have hX8 : (fun k => k < w.heap.size ∨ k = w.heap.size + 1 ∨ k = w.heap.size + 2) (w.heap.size + 1 + 1) := .inr (.inr rfl)
  have A0 := GK.out
  have A1 := A0.dZ hX8 0 (.slice v2.a1 v2.n1 v2.c1)
  have A2 := A1.dZ hX8 1 (.slice v2.hc.az 2 v2.hc.cz)
  have A3 := A2.dZ hX8 2 (.slice v2.hc.am 2 v2.hc.cm)
  have A4 := A3.dZ hX8 3 (.int .i64 (s'.h.aF : Int))
  have A5 := A4.dZ hX8 4 (.slice v2.hc.al v2.hc.lc.length v2.hc.cl)
  have A6 := A5.dZ hX8 5 (.slice v2.hc.av s'.h.live.length v2.hc.cv)
  have A7 := A6.dZ hX8 6 (.slice v2.a2 v2.ys.length v2.c2)
  have qJ := gO (A7.sub (Y := fun k => k < w.heap.size) (fun k hk => .inl hk)).r
  have lI := gO (Below.setCell (Below.setCell (Below.setCell (Below.setCell (Below.setCell (Below.setCell (Below.setCell HBe.out (show w.heap.size ≤ (⟨w.heap.size + 1 + 1, 0, none⟩ : Addr).block from hle2) (.slice v2.a1 v2.n1 v2.c1)) (show w.heap.size ≤ (⟨w.heap.size + 1 + 1, 1, none⟩ : Addr).block from hle2) (.slice v2.hc.az 2 v2.hc.cz)) (show w.heap.size ≤ (⟨w.heap.size + 1 + 1, 2, none⟩ : Addr).block from hle2) (.slice v2.hc.am 2 v2.hc.cm)) (show w.heap.size ≤ (⟨w.heap.size + 1 + 1, 3, none⟩ : Addr).block from hle2) (.int .i64 (s'.h.aF : Int))) (show w.heap.size ≤ (⟨w.heap.size + 1 + 1, 4, none⟩ : Addr).block from hle2) (.slice v2.hc.al v2.hc.lc.length v2.hc.cl)) (show w.heap.size ≤ (⟨w.heap.size + 1 + 1, 5, none⟩ : Addr).block from hle2) (.slice v2.hc.av s'.h.live.length v2.hc.cv)) (show w.heap.size ≤ (⟨w.heap.size + 1 + 1, 6, none⟩ : Addr).block from hle2) (.slice v2.a2 v2.ys.length v2.c2))
  clear A0 A1 A2 A3 A4 A5 A6 A7 hX8
  go_wp2_with fail
  generalize ((((((we.setCell ⟨w.heap.size + 1 + 1, 0, none⟩ (.slice v2.a1 v2.n1 v2.c1)).setCell ⟨w.heap.size + 1 + 1, 1, none⟩ (.slice v2.hc.az 2 v2.hc.cz)).setCell ⟨w.heap.size + 1 + 1, 2, none⟩ (.slice v2.hc.am 2 v2.hc.cm)).setCell ⟨w.heap.size + 1 + 1, 3, none⟩ (.int .i64 (s'.h.aF : Int))).setCell ⟨w.heap.size + 1 + 1, 4, none⟩ (.slice v2.hc.al v2.hc.lc.length v2.hc.cl)).setCell ⟨w.heap.size + 1 + 1, 5, none⟩ (.slice v2.hc.av s'.h.live.length v2.hc.cv)).setCell ⟨w.heap.size + 1 + 1, 6, none⟩ (.slice v2.a2 v2.ys.length v2.c2) = wx at *
  exact bodyPost_ret (v := .tuple #[.agg #[.slice v2.a1 v2.n1 v2.c1, .slice v2.hc.az 2 v2.hc.cz, .slice v2.hc.am 2 v2.hc.cm, .int .i64 (s'.h.aF : Int), .slice v2.hc.al v2.hc.lc.length v2.hc.cl, .slice v2.hc.av s'.h.live.length v2.hc.cv, .slice v2.a2 v2.ys.length v2.c2], .int .i64 0]) (by simp [results, Tryz.results31, go_sem, KX]) rfl ⟨v2, rfl, qJ.out, lI.out⟩
 | none =>
  have hfe : bZ (fun c : Ca => decide (c.z = z)) s.cs = -1 := by
   unfold bZ
   rw [hfd]
  have hcl : v1.ys.length = s.cs.length := by
   have h := congrArg List.length HS7.out.r.cy
   simpa using h
  have Vy : s.cs.length ≠ 20 ∧ s' = { s with cs := s.cs ++ [⟨[n], z, eY z, dV z, [], List.replicate s.h.aF (-1)⟩] } := by
   have h := HCR.out
   unfold Sy.create at h
   rw [hfd] at h
   simp only at h
   split at h
   ·cases h
   ·exact ⟨by assumption, (gP h).symm⟩
  have aDq : ((v1.ys.length : Int) == 20) = false := by
   rw [beq_eq_false_iff_ne]
   omega
  have NY := gO Vy.2
  rw [hfe]
  have x6 := HS7.out.k 6
  have x3 := HS7.out.k 3
  have p0 := HP7.out 0
  unfold Sc.vals at x6 x3
  simp only [gB, gC, gD] at x6 x3 p0
  have HLY := gO (zW z w7 HZ.out.1 HZ.out.2)
  have aHm := HK.out.hk.cp.2
  have p0' := ((aB w7 (.cells #[.string ⟨n.toArray⟩] 9)).cell (p := ⟨w.heap.size + 1, 0, none⟩) (by show w.heap.size + 1 < w7.heap.size; omega)).trans p0
  clear hfe hfd Vy hcl
  go_upto_region 23 with (go_at_call 70; refine HLY.out.mono ?_; rintro ev w8 ⟨rfl, rfl⟩)
  have ba := aB w7 (.cells #[.string ⟨n.toArray⟩] 9)
  have bb := aB (w7.alloc (.cells #[.string ⟨n.toArray⟩] 9)) (.cells #[.slice (some ⟨w7.heap.size, 0, none⟩) 1 1, .int .i64 (z : Int), .int .i64 (eY z : Int), .int .i64 (dV z : Int), .slice none 0 0, .slice none 0 0] 94)
  have hbb := Below.step ba bb
  have hs8 : (w7.alloc (.cells #[.string ⟨n.toArray⟩] 9)).heap.size = w7.heap.size + 1 := by simp
  have KC := bC (w7.alloc (.cells #[.string ⟨n.toArray⟩] 9)) #[.slice (some ⟨w7.heap.size, 0, none⟩) 1 1, .int .i64 (z : Int), .int .i64 (eY z : Int), .int .i64 (dV z : Int), .slice none 0 0, .slice none 0 0] 94
  have FC := eH (w7.alloc (.cells #[.string ⟨n.toArray⟩] 9)) #[.slice (some ⟨w7.heap.size, 0, none⟩) 1 1, .int .i64 (z : Int), .int .i64 (eY z : Int), .int .i64 (dV z : Int), .slice none 0 0, .slice none 0 0] 94
  rw [hs8] at KC FC
  have hs9 : ((w7.alloc (.cells #[.string ⟨n.toArray⟩] 9)).alloc (.cells #[.slice (some ⟨w7.heap.size, 0, none⟩) 1 1, .int .i64 (z : Int), .int .i64 (eY z : Int), .int .i64 (dV z : Int), .slice none 0 0, .slice none 0 0] 94)).heap.size = w7.heap.size + 2 := by simp
  have HN9 : Hid (((w7.alloc (.cells #[.string ⟨n.toArray⟩] 9)).alloc (.cells #[.slice (some ⟨w7.heap.size, 0, none⟩) 1 1, .int .i64 (z : Int), .int .i64 (eY z : Int), .int .i64 (dV z : Int), .slice none 0 0, .slice none 0 0] 94)).ownsRow w7.heap.size 9 1 (.slice (some ⟨w7.heap.size, 0, none⟩) 1 1) 1 [.string ⟨n.toArray⟩]) :=
   own_below ⟨by simp, .inr ⟨w7.heap.size, 1, #[.string ⟨n.toArray⟩], rfl, Nat.le_refl _, heap_alloc_new w7 _, Nat.le_refl _, by unfold maxLen; omega, by simp, by simp⟩⟩ bb (Nat.le_refl _)
  have HS9 : Hid (SS ((w7.alloc (.cells #[.string ⟨n.toArray⟩] 9)).alloc (.cells #[.slice (some ⟨w7.heap.size, 0, none⟩) 1 1, .int .i64 (z : Int), .int .i64 (eY z : Int), .int .i64 (dV z : Int), .slice none 0 0, .slice none 0 0] 94)) w.heap.size (fun k => (k < w.heap.size ∨ k = w.heap.size + 1 ∨ k = w.heap.size + 2) ∨ k = w7.heap.size + 1) s v1) :=
   (HS7.out.new hbb).sub fun k hk => hk.imp id fun e => by rw [hs9]; omega
  have HR9 := gO (aC HR7.out hw7 hbb)
  have HU9 := gO (aJ HU7.out hw7 hbb)
  have HB9 := gO (HB7.out.trans (hbb.mono (gQ (gR (Nat.lt_of_succ_lt (Nat.lt_of_succ_lt hw7))) (Nat.le_refl _))))
  have HKC := gO KC
  have HFC := gO FC
  have x3' := (hbb.cell (p := ⟨w.heap.size, 3, none⟩) (by show w.heap.size < w7.heap.size; omega)).trans x3
  clear ba bb hbb KC FC x3 x6 p0 p0' HR7 HU7 HB7 HP7 HLY hs8
  generalize (w7.alloc (.cells #[.string ⟨n.toArray⟩] 9)).alloc (.cells #[.slice (some ⟨w7.heap.size, 0, none⟩) 1 1, .int .i64 (z : Int), .int .i64 (eY z : Int), .int .i64 (dV z : Int), .slice none 0 0, .slice none 0 0] 94) = w9 at *
  go_wp2_with fail
  clear x3'
  go_loopw [122] (fun s122 wr => ∃ (j : Nat) (a3 : Option Addr) (c3 : Nat), j ≤ s.h.aF ∧ s122 = .int .i64 (j : Int) ∧ Hid (SS wr w.heap.size (fun k => ((k < w.heap.size ∨ k = w.heap.size + 1 ∨ k = w.heap.size + 2) ∨ k = w7.heap.size + 1) ∨ (Value.slice a3 j c3).ownBlock = some k) s v1) ∧ Hid (wr.ownsRow w7.heap.size 9 1 (.slice (some ⟨w7.heap.size, 0, none⟩) 1 1) 1 [.string ⟨n.toArray⟩]) ∧ Hid (wr.ownsRow w9.heap.size 3 1 (.slice a3 j c3) j ((List.replicate j (-1)).map vI)) ∧ Hid (∀ o, wr.cell? ⟨w7.heap.size + 1, o, none⟩ = (#[.slice (some ⟨w7.heap.size, 0, none⟩) 1 1, .int .i64 (z : Int), .int .i64 (eY z : Int), .int .i64 (dV z : Int), .slice none 0 0, .slice a3 j c3] : Array Value)[o]?) ∧ Hid (∀ o, wr.frozen? ⟨w7.heap.size + 1, o, none⟩ = false) ∧ Hid (∀ o, wr.cell? ⟨w.heap.size + 1 + 1, o, none⟩ = (#[.slice none 0 0, .slice none 0 0, .slice none 0 0, .int .i64 0, .slice none 0 0, .slice none 0 0, .slice none 0 0] : Array Value)[o]?) ∧ Hid (∀ o, wr.frozen? ⟨w.heap.size + 1 + 1, o, none⟩ = false) ∧ w9.heap.size ≤ wr.heap.size ∧ Hid (Below w.heap.size w wr)) (fun s122 _ => s.h.aF - (intOf s122).toNat)
  case atStart => exact ⟨0, none, 0, Nat.zero_le _, rfl, HS9.out.sub (fun k hk => hk.resolve_right (by simp [Value.ownBlock])), HN9, World.ownsRow_nil _ _ _ _, HKC, HFC, HR9, HU9, Nat.le_refl _, HB9⟩
  case round =>
   obtain ⟨j, a3, c3, hj, rfl, sD, NP, Vz, AO, HFj, HRj, Un, hwj, pR⟩ := hrel
   clear HS9 HN9 HKC HFC HR9 HU9 HB9
   have hcj : w7.heap.size + 1 < wr.heap.size := by omega
   have htj : w.heap.size + 1 + 1 < wr.heap.size := by omega
   by_cases hlt : j < s.h.aF
   ·have hji : (j : Int) < s.h.aF := by omega
    have ba := aB wr (.cells #[.int .i64 (-1)] 3)
    have HS1 := gO (sD.out.below ba)
    have HN1 : Hid ((wr.alloc (.cells #[.int .i64 (-1)] 3)).ownsRow w7.heap.size 9 1 (.slice (some ⟨w7.heap.size, 0, none⟩) 1 1) 1 [.string ⟨n.toArray⟩]) := own_below NP.out ba (Nat.le_refl _)
    have HA1 : Hid ((wr.alloc (.cells #[.int .i64 (-1)] 3)).ownsRow w9.heap.size 3 1 (.slice a3 j c3) j ((List.replicate j (-1)).map vI)) := own_below Vz.out ba (Nat.le_refl _)
    have HK1 := gO (aC AO.out hcj ba)
    have HF1 := gO (aJ HFj.out hcj ba)
    have HR1 := gO (aC HRj.out htj ba)
    have HU1 := gO (aJ Un.out htj ba)
    have Xx := gO (Below.step pR.out ba)
    have hw1 : w9.heap.size ≤ (wr.alloc (.cells #[.int .i64 (-1)] 3)).heap.size := gQ hwj ba.size
    have NH := gO (World.news_of_block (heap_alloc_new wr (.cells #[.int .i64 (-1)] 3)))
    have k5 := AO.out 5
    simp only [gB, gC, gD] at k5
    obtain ⟨ti, hti, htz, hts, htb⟩ := info_parts l7
    have hcs : w7.heap.size + 1 < (wr.alloc (.cells #[.int .i64 (-1)] 3)).heap.size := gI hcj ba.size
    have aAz : w.heap.size + 1 + 1 < (wr.alloc (.cells #[.int .i64 (-1)] 3)).heap.size := gI htj ba.size
    have aAA : some (w7.heap.size + 1) ≠ (Value.slice a3 j c3).ownBlock := fun e => by
     have := (Vz.out.lt _ e.symm).1
     omega
    have aAB : some (w.heap.size + 1 + 1) ≠ (Value.slice a3 j c3).ownBlock := fun e => by
     have := (Vz.out.lt _ e.symm).1
     omega
    have aAC : ∀ k, (Value.slice (some ⟨w7.heap.size, 0, none⟩) 1 1).ownBlock = some k → (Value.slice a3 j c3).ownBlock ≠ some k := fun k e e' => by
     have h1 := (Vz.out.lt _ e').1
     have h2 : w7.heap.size = k := by simpa [Value.ownBlock] using e
     omega
    have QW := gO aAA
    have Xy := gO aAB
    have aAD := gO aAC
    clear ba sD NP Vz AO HFj HRj Un pR aAA aAB aAC
    go_wp2_with (at_builtin; refine wpList_append_lies _ rfl _ _ 39 rfl w9.heap.size 3 ti (.int .i64 0) 1 8 Tryz.underlying39 hti htz hts htb rfl (by decide) (.slice a3 j c3) j ((List.replicate j (-1)).map vI) rfl HA1.out ⟨wr.heap.size, 0, none⟩ 1 1 [.int .i64 (-1)] rfl rfl NH.out (by simp [Value.oneCell']) (by decide) (by unfold maxLen; omega) (by omega) hw1 _ rfl ?_; intro g7 cap7 wg ho7 hg7 hl7 Xe; have q5 := (bH HK1.out hcs hg7 QW.out 5).trans (show _ = some (.slice a3 j c3) from rfl); have f5 := bI HF1.out hcs hg7 QW.out 5)
    have HSg := HS1.out.out (Z := fun k => ((k < w.heap.size ∨ k = w.heap.size + 1 ∨ k = w.heap.size + 2) ∨ k = w7.heap.size + 1) ∨ (Value.slice (some ⟨g7, 0, none⟩) (j + 1) cap7).ownBlock = some k) hg7 (fun k e => .inr e) (fun k hk => by
     rcases hk with h | h
     ·exact .inl (.inl h)
     ·obtain rfl : g7 = k := by simpa [Value.ownBlock] using h
      rcases hl7 with h1 | h1
      ·exact .inl (.inr h1)
      ·exact .inr ⟨Nat.le_of_eq h1.symm, Xe⟩)
    have HS2 := gO (HSg.dZ (g := w7.heap.size + 1) (.inl (.inr rfl)) 5 (.slice (some ⟨g7, 0, none⟩) (j + 1) cap7))
    have HA2 : Hid ((wg.setCell ⟨w7.heap.size + 1, 5, none⟩ (.slice (some ⟨g7, 0, none⟩) (j + 1) cap7)).ownsRow w9.heap.size 3 1 (.slice (some ⟨g7, 0, none⟩) (j + 1) cap7) (j + 1) ((List.replicate (j + 1) (-1)).map vI)) := by
     unfold Hid
     rw [List.replicate_succ', List.map_append]
     exact dL (i := 5) ho7 (fun e => by have := (ho7.lt _ e).1; omega) _
    have HN2 : Hid ((wg.setCell ⟨w7.heap.size + 1, 5, none⟩ (.slice (some ⟨g7, 0, none⟩) (j + 1) cap7)).ownsRow w7.heap.size 9 1 (.slice (some ⟨w7.heap.size, 0, none⟩) 1 1) 1 [.string ⟨n.toArray⟩]) :=
     dL (i := 5) (iF HN1.out hg7 (fun k hk => aAD.out k hk)) (by simp [Value.ownBlock]) _
    have K2' := aG (bH HK1.out hcs hg7 QW.out) 5 (.slice (some ⟨g7, 0, none⟩) (j + 1) cap7)
    simp only [gE, gG, gH] at K2'
    have aDs := gO K2'
    have aDt := gO (aH (bI HF1.out hcs hg7 QW.out) ⟨w7.heap.size + 1, 5, none⟩ (.slice (some ⟨g7, 0, none⟩) (j + 1) cap7))
    have aDu := gO (aA (bH HR1.out aAz hg7 Xy.out) (show w.heap.size + 1 + 1 ≠ w7.heap.size + 1 by omega) 5 (.slice (some ⟨g7, 0, none⟩) (j + 1) cap7))
    have aDv := gO (aH (bI HU1.out aAz hg7 Xy.out) ⟨w7.heap.size + 1, 5, none⟩ (.slice (some ⟨g7, 0, none⟩) (j + 1) cap7))
    have aDw : Hid (Below w.heap.size w (wg.setCell ⟨w7.heap.size + 1, 5, none⟩ (.slice (some ⟨g7, 0, none⟩) (j + 1) cap7))) := Below.setCell (Below.grown Xx.out hg7 Xx.out.size fun k e => by
     have := (HA1.out.lt k e).1
     omega) (show w.heap.size ≤ (⟨w7.heap.size + 1, 5, none⟩ : Addr).block by show w.heap.size ≤ w7.heap.size + 1; omega) _
    have hw2 : w9.heap.size ≤ (wg.setCell ⟨w7.heap.size + 1, 5, none⟩ (.slice (some ⟨g7, 0, none⟩) (j + 1) cap7)).heap.size := by
     have := hg7.size
     simp
     omega
    clear ho7 hg7 hl7 Xe HSg K2' HS1 HN1 HA1 HK1 HF1 HR1 HU1 Xx NH QW Xy aAD q5 f5 k5
    go_wp2
    go_roundw
    case rel => exact ⟨j + 1, some ⟨g7, 0, none⟩, cap7, by omega, by go_num, HS2, HN2, HA2, aDs, aDt, aDu, aDv, hw2, aDw⟩
    case measure => simp [intOf]; omega
   ·obtain rfl : j = s.h.aF := by omega
    have ba := aB wr (.cells #[.slice (some ⟨w7.heap.size, 0, none⟩) 1 1, .int .i64 (z : Int), .int .i64 (eY z : Int), .int .i64 (dV z : Int), .slice none 0 0, .slice a3 s.h.aF c3] 94)
    have x6 := sD.out.k 6
    have q0 := AO.out 0
    have q1 := AO.out 1
    have q2 := AO.out 2
    have q3 := AO.out 3
    have q4 := AO.out 4
    have q5 := AO.out 5
    unfold Sc.vals at x6
    simp only [gB, gC, gD] at x6 q0 q1 q2 q3 q4 q5
    have GL : Hid (SS (wr.alloc (.cells #[.slice (some ⟨w7.heap.size, 0, none⟩) 1 1, .int .i64 (z : Int), .int .i64 (eY z : Int), .int .i64 (dV z : Int), .slice none 0 0, .slice a3 s.h.aF c3] 94)) w.heap.size (fun k => k < w.heap.size ∨ k = w.heap.size + 1 ∨ k = w.heap.size + 2) s v1) := (sD.out.below ba).sub fun k hk => .inl (.inl hk)
    have Yv := gO (aC HRj.out htj ba)
    have HUA := gO (aJ Un.out htj ba)
    have CS := gO (Below.step pR.out ba)
    have htA : w.heap.size + 1 + 1 < (wr.alloc (.cells #[.slice (some ⟨w7.heap.size, 0, none⟩) 1 1, .int .i64 (z : Int), .int .i64 (eY z : Int), .int .i64 (dV z : Int), .slice none 0 0, .slice a3 s.h.aF c3] 94)).heap.size := gI htj ba.size
    have o1 : dA (wr.alloc (.cells #[.slice (some ⟨w7.heap.size, 0, none⟩) 1 1, .int .i64 (z : Int), .int .i64 (eY z : Int), .int .i64 (dV z : Int), .slice none 0 0, .slice a3 s.h.aF c3] 94)) 0 (mQ (⟨some ⟨w7.heap.size, 0, none⟩, 1, 1, none, 0, 0, a3, s.h.aF, c3, ⟨[n], z, eY z, dV z, [], List.replicate s.h.aF (-1)⟩⟩ : Cc) :: v1.rows s) := dA.cons (bs := w7.heap.size) GL.out.r.own (r' := mQ (⟨some ⟨w7.heap.size, 0, none⟩, 1, 1, none, 0, 0, a3, s.h.aF, c3, ⟨[n], z, eY z, dV z, [], List.replicate s.h.aF (-1)⟩⟩ : Cc)) (own_below NP.out ba (Nat.le_refl _)) (Nat.zero_le _) fun r hr g hg => HS7.out.r.lt r hr g hg
    have o2 : dA (wr.alloc (.cells #[.slice (some ⟨w7.heap.size, 0, none⟩) 1 1, .int .i64 (z : Int), .int .i64 (eY z : Int), .int .i64 (dV z : Int), .slice none 0 0, .slice a3 s.h.aF c3] 94)) 0 (kS (⟨some ⟨w7.heap.size, 0, none⟩, 1, 1, none, 0, 0, a3, s.h.aF, c3, ⟨[n], z, eY z, dV z, [], List.replicate s.h.aF (-1)⟩⟩ : Cc) :: mQ (⟨some ⟨w7.heap.size, 0, none⟩, 1, 1, none, 0, 0, a3, s.h.aF, c3, ⟨[n], z, eY z, dV z, [], List.replicate s.h.aF (-1)⟩⟩ : Cc) :: v1.rows s) := dA.cons (bs := (wr.alloc (.cells #[.slice (some ⟨w7.heap.size, 0, none⟩) 1 1, .int .i64 (z : Int), .int .i64 (eY z : Int), .int .i64 (dV z : Int), .slice none 0 0, .slice a3 s.h.aF c3] 94)).heap.size) o1 (r' := kS (⟨some ⟨w7.heap.size, 0, none⟩, 1, 1, none, 0, 0, a3, s.h.aF, c3, ⟨[n], z, eY z, dV z, [], List.replicate s.h.aF (-1)⟩⟩ : Cc)) (World.ownsRow_nil _ _ _ _) (Nat.zero_le _) fun r hr g hg => (o1.lt r hr g hg).2
    have o3 : dA (wr.alloc (.cells #[.slice (some ⟨w7.heap.size, 0, none⟩) 1 1, .int .i64 (z : Int), .int .i64 (eY z : Int), .int .i64 (dV z : Int), .slice none 0 0, .slice a3 s.h.aF c3] 94)) 0 (nS (⟨some ⟨w7.heap.size, 0, none⟩, 1, 1, none, 0, 0, a3, s.h.aF, c3, ⟨[n], z, eY z, dV z, [], List.replicate s.h.aF (-1)⟩⟩ : Cc) :: kS (⟨some ⟨w7.heap.size, 0, none⟩, 1, 1, none, 0, 0, a3, s.h.aF, c3, ⟨[n], z, eY z, dV z, [], List.replicate s.h.aF (-1)⟩⟩ : Cc) :: mQ (⟨some ⟨w7.heap.size, 0, none⟩, 1, 1, none, 0, 0, a3, s.h.aF, c3, ⟨[n], z, eY z, dV z, [], List.replicate s.h.aF (-1)⟩⟩ : Cc) :: v1.rows s) := dA.cons (bs := w9.heap.size) o2 (r' := nS (⟨some ⟨w7.heap.size, 0, none⟩, 1, 1, none, 0, 0, a3, s.h.aF, c3, ⟨[n], z, eY z, dV z, [], List.replicate s.h.aF (-1)⟩⟩ : Cc)) (own_below Vz.out ba (Nat.le_refl _)) (Nat.zero_le _) fun r hr g hg => by
     rcases List.mem_cons.1 hr with rfl | hr
     ·simp [kS, Value.ownBlock] at hg
     ·rcases List.mem_cons.1 hr with rfl | hr
      ·have : w7.heap.size = g := by simpa [mQ, Value.ownBlock] using hg
       omega
      ·have := HS7.out.r.lt r hr g hg
       omega
    have hfr : ∀ r ∈ eU (⟨some ⟨w7.heap.size, 0, none⟩, 1, 1, none, 0, 0, a3, s.h.aF, c3, ⟨[n], z, eY z, dV z, [], List.replicate s.h.aF (-1)⟩⟩ : Cc), ∀ g, r.v.ownBlock = some g → v1.fr s w.heap.size (fun k => k < w.heap.size ∨ k = w.heap.size + 1 ∨ k = w.heap.size + 2) g := fun r hr g hg => HS7.out.r.fresh (by
     simp only [eU, List.mem_cons, List.not_mem_nil, or_false] at hr
     rcases hr with rfl | rfl | rfl
     ·have : w7.heap.size = g := by simpa [mQ, Value.ownBlock] using hg
      omega
     ·simp [kS, Value.ownBlock] at hg
     ·have := (Vz.out.lt g hg).1
      omega)
    have HO3 := gO o3
    have vZ := gO hfr
    have ZV : Hid ((jR v1).on (wr.alloc (.cells #[.slice (some ⟨w7.heap.size, 0, none⟩) 1 1, .int .i64 (z : Int), .int .i64 (eY z : Int), .int .i64 (dV z : Int), .slice none 0 0, .slice a3 s.h.aF c3] 94)) 0) := GL.out.r.own.each _ (dS v1 _)
    have SH : Hid ((jR v1).v.ownBlock ≠ some w.heap.size) := fun e => (GL.out.r.og _ (dS v1 _) _ e).1 rfl
    have NH := gO (World.news_of_block (heap_alloc_new wr (.cells #[.slice (some ⟨w7.heap.size, 0, none⟩) 1 1, .int .i64 (z : Int), .int .i64 (eY z : Int), .int .i64 (dV z : Int), .slice none 0 0, .slice a3 s.h.aF c3] 94)))
    obtain ⟨ti, hti, htz, hts, htb⟩ := info_parts yN
    have hgs := GL.out.r.hr.gs
    clear o1 o2 o3 hfr ba sD NP Vz AO HFj HRj Un pR
    go_upto_region 28 with (at_builtin; refine wpList_append_lies _ rfl _ _ 45 rfl 0 94 ti (.agg #[.slice none 0 0, .int .i64 0, .int .i64 0, .int .i64 0, .slice none 0 0, .slice none 0 0]) 6 96 Tryz.underlying45 hti htz hts htb rfl (by decide) (.slice v1.a2 v1.ys.length v1.c2) v1.ys.length (flat bV v1.ys) rfl ZV.out ⟨wr.heap.size, 0, none⟩ 1 1 [.slice (some ⟨w7.heap.size, 0, none⟩) 1 1, .int .i64 (z : Int), .int .i64 (eY z : Int), .int .i64 (dV z : Int), .slice none 0 0, .slice a3 s.h.aF c3] rfl rfl NH.out (by simp [Value.oneCell']) (by decide) (by unfold maxLen; omega) (by omega) (Nat.zero_le _) _ rfl ?_; intro g9 cap9 wg ho9 hg9 hl9 TT; have q9 := (bH GL.out.k GL.out.r.hr.gs hg9 (fun e => SH.out e.symm) 6).trans (show _ = some (.slice v1.a2 v1.ys.length v1.c2) from rfl); have f9 := bI GL.out.fz GL.out.r.hr.gs hg9 (fun e => SH.out e.symm) 6)
    obtain ⟨aAE, sf9⟩ := GL.out.Zg (y := (⟨some ⟨w7.heap.size, 0, none⟩, 1, 1, none, 0, 0, a3, s.h.aF, c3, ⟨[n], z, eY z, dV z, [], List.replicate s.h.aF (-1)⟩⟩ : Cc)) HO3.out vZ.out hg9 (by rw [aT, fF]; exact ho9) (by
     rcases hl9 with h1 | h1
     ·exact .inl h1
     ·exact .inr (Nat.le_of_eq h1.symm))
    have hex : ∃ v2, SS (wg.setCell ⟨w.heap.size, 6, none⟩ (.slice (some ⟨g9, 0, none⟩) (v1.ys.length + 1) cap9)) w.heap.size (fun k => k < w.heap.size ∨ k = w.heap.size + 1 ∨ k = w.heap.size + 2) s' v2 := ⟨_, by rw [NY.out]; exact aAE⟩
    obtain ⟨v2, hse⟩ := hex
    have GK := gO hse
    have GI := gO (sf9.box Yv.out htA (.inr (.inr rfl)))
    have HUe := gO (sf9.Pg HUA.out htA (.inr (.inr rfl)))
    have HBe := gO (Safe.after CS.out sf9 (fun k hk => .inl hk) CS.out.size)
    clear aAE sf9 hse ho9 hg9 hl9 TT q9 f9 GL Yv HUA CS HO3 vZ ZV SH NH x6 q0 q1 q2 q3 q4 q5 NY aDq hs9
    generalize wg.setCell ⟨w.heap.size, 6, none⟩ (.slice (some ⟨g9, 0, none⟩) (v1.ys.length + 1) cap9) = we at *
    have x0 := GK.out.k 0
    have x1 := GK.out.k 1
    have x2 := GK.out.k 2
    have x3 := GK.out.k 3
    have x4 := GK.out.k 4
    have x5 := GK.out.k 5
    have x6 := GK.out.k 6
    unfold Sc.vals at x0 x1 x2 x3 x4 x5 x6
    have y0 := GI.out 0
    have y1 := GI.out 1
    have y2 := GI.out 2
    have y3 := GI.out 3
    have y4 := GI.out 4
    have y5 := GI.out 5
    have y6 := GI.out 6
    obtain ⟨f0, f1, f2, f3, f4, f5, f6⟩ := gF7 HUe.out
    simp only [gB, gC, gD] at x0 x1 x2 x3 x4 x5 x6 y0 y1 y2 y3 y4 y5 y6
    have hle2 : w.heap.size ≤ w.heap.size + 1 + 1 := by omega
    have KX := (aG (aG (aG (aG (aG (aG (aG GI.out 0 (.slice v2.a1 v2.n1 v2.c1)) 1 (.slice v2.hc.az 2 v2.hc.cz)) 2 (.slice v2.hc.am 2 v2.hc.cm)) 3 (.int .i64 (s'.h.aF : Int))) 4 (.slice v2.hc.al v2.hc.lc.length v2.hc.cl)) 5 (.slice v2.hc.av s'.h.live.length v2.hc.cv)) 6 (.slice v2.a2 v2.ys.length v2.c2))
    simp only [gE, gG, gH] at KX
    have hX8 : (fun k => k < w.heap.size ∨ k = w.heap.size + 1 ∨ k = w.heap.size + 2) (w.heap.size + 1 + 1) := .inr (.inr rfl)
    have A0 := GK.out
    have A1 := A0.dZ hX8 0 (.slice v2.a1 v2.n1 v2.c1)
    have A2 := A1.dZ hX8 1 (.slice v2.hc.az 2 v2.hc.cz)
    have A3 := A2.dZ hX8 2 (.slice v2.hc.am 2 v2.hc.cm)
    have A4 := A3.dZ hX8 3 (.int .i64 (s'.h.aF : Int))
    have A5 := A4.dZ hX8 4 (.slice v2.hc.al v2.hc.lc.length v2.hc.cl)
    have A6 := A5.dZ hX8 5 (.slice v2.hc.av s'.h.live.length v2.hc.cv)
    have A7 := A6.dZ hX8 6 (.slice v2.a2 v2.ys.length v2.c2)
    have qJ := gO (A7.sub (Y := fun k => k < w.heap.size) (fun k hk => .inl hk)).r
    have lI := gO (Below.setCell (Below.setCell (Below.setCell (Below.setCell (Below.setCell (Below.setCell (Below.setCell HBe.out (show w.heap.size ≤ (⟨w.heap.size + 1 + 1, 0, none⟩ : Addr).block from hle2) (.slice v2.a1 v2.n1 v2.c1)) (show w.heap.size ≤ (⟨w.heap.size + 1 + 1, 1, none⟩ : Addr).block from hle2) (.slice v2.hc.az 2 v2.hc.cz)) (show w.heap.size ≤ (⟨w.heap.size + 1 + 1, 2, none⟩ : Addr).block from hle2) (.slice v2.hc.am 2 v2.hc.cm)) (show w.heap.size ≤ (⟨w.heap.size + 1 + 1, 3, none⟩ : Addr).block from hle2) (.int .i64 (s'.h.aF : Int))) (show w.heap.size ≤ (⟨w.heap.size + 1 + 1, 4, none⟩ : Addr).block from hle2) (.slice v2.hc.al v2.hc.lc.length v2.hc.cl)) (show w.heap.size ≤ (⟨w.heap.size + 1 + 1, 5, none⟩ : Addr).block from hle2) (.slice v2.hc.av s'.h.live.length v2.hc.cv)) (show w.heap.size ≤ (⟨w.heap.size + 1 + 1, 6, none⟩ : Addr).block from hle2) (.slice v2.a2 v2.ys.length v2.c2))
    clear A0 A1 A2 A3 A4 A5 A6 A7 hX8
    go_wp2_with fail
    generalize ((((((we.setCell ⟨w.heap.size + 1 + 1, 0, none⟩ (.slice v2.a1 v2.n1 v2.c1)).setCell ⟨w.heap.size + 1 + 1, 1, none⟩ (.slice v2.hc.az 2 v2.hc.cz)).setCell ⟨w.heap.size + 1 + 1, 2, none⟩ (.slice v2.hc.am 2 v2.hc.cm)).setCell ⟨w.heap.size + 1 + 1, 3, none⟩ (.int .i64 (s'.h.aF : Int))).setCell ⟨w.heap.size + 1 + 1, 4, none⟩ (.slice v2.hc.al v2.hc.lc.length v2.hc.cl)).setCell ⟨w.heap.size + 1 + 1, 5, none⟩ (.slice v2.hc.av s'.h.live.length v2.hc.cv)).setCell ⟨w.heap.size + 1 + 1, 6, none⟩ (.slice v2.a2 v2.ys.length v2.c2) = wx at *
    exact bodyPost_ret (v := .tuple #[.agg #[.slice v2.a1 v2.n1 v2.c1, .slice v2.hc.az 2 v2.hc.cz, .slice v2.hc.am 2 v2.hc.cm, .int .i64 (s'.h.aF : Int), .slice v2.hc.al v2.hc.lc.length v2.hc.cl, .slice v2.hc.av s'.h.live.length v2.hc.cv, .slice v2.a2 v2.ys.length v2.c2], .int .i64 0]) (by simp [results, Tryz.results31, go_sem, KX]) rfl ⟨v2, rfl, qJ.out, lI.out⟩
end
end Go.Proofs.YtcmpmobhongkiaaGreatDoor
