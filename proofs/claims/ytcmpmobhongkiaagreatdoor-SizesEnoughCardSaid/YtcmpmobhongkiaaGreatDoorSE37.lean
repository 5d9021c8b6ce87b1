/- texts of this claim, joined. -/
import Derived.Test.YtcmpmobhongkiaaGreatDoorSE0
import Derived.Test.YtcmpmobhongkiaaGreatDoorSE36
set_option linter.unusedVariables false
set_option linter.unusedSimpArgs false
namespace Go.Proofs.YtcmpmobhongkiaaGreatDoor
section
open Go.RowKit

set_option maxHeartbeats 4000000 in
set_option maxRecDepth 100000 in
theorem BF (v : Sc) (s : Sy) (n : List UInt8) (w : World) (hs : oU w v s) (hf : ∀ c ∈ s.cs, c.ns.length ≤ 1000) (hyl : v.ys.length ≤ 20) :
  Calls Tryz.prog 65 #[.agg #[.slice v.a1 v.n1 v.c1, .slice v.hc.az 2 v.hc.cz, .slice v.hc.am 2 v.hc.cm, .int .i64 s.h.aF, .slice v.hc.al v.hc.lc.length v.hc.cl, .slice v.hc.av s.h.live.length v.hc.cv, .slice v.a2 v.ys.length v.c2], .string ⟨n.toArray⟩] w fun ev w' => ev = .returned (.tuple #[.int .i64 (bZ (fun c => c.ns.contains n) s.cs), .bool (decide (0 ≤ bZ (fun c => c.ns.contains n) s.cs))]) ∧ Below w.heap.size w w' := by
 have eg : ∀ args w, (callFunc 118 args).run Tryz.prog w = .ok (.enter 118 args) w := enters_of Tryz.func118 (by kernel_rfl) rfl
 obtain ⟨K1, K2, F1, F2, hsz, hbw⟩ := boxes2 w #[.slice v.a1 v.n1 v.c1, .slice v.hc.az 2 v.hc.cz, .slice v.hc.am 2 v.hc.cm, .int .i64 (s.h.aF : Int), .slice v.hc.al v.hc.lc.length v.hc.cl, .slice v.hc.av s.h.live.length v.hc.cv, .slice v.a2 v.ys.length v.c2] 47 #[.string ⟨n.toArray⟩] 9
 have k6 := K1 6
 have p0 := K2 0
 simp only [gB, gC, gD] at k6 p0
 have hs1 := hs.below hbw
 have hfi : bZ (fun y : Cc => y.c.ns.contains n) v.ys = bZ (fun c => c.ns.contains n) s.cs := by
  rw [← hs.cy]
  unfold bZ
  rw [List.findIdx?_map]
  rfl
 have hcall := pW v.a2 v.ys.length v.c2 v.ys 118 #[.pointer (some ⟨w.heap.size + 1, 0, none⟩)] (fun y => y.c.ns.contains n) _ rfl (by omega) hs1.rc eg (fun W hW y hy => KJ y n (w.heap.size + 1) W ((hs1.below hW).ca y hy) (by
  have h1 := (hs1.ca y hy).l1
  have h2 := hf y.c (by rw [← hs.cy]; exact List.mem_map_of_mem hy)
  omega) (gI hsz hW.size) ((hW.cell (p := ⟨w.heap.size + 1, 0, none⟩) hsz).trans p0))
 rw [hfi] at hcall
 have HC := gO hcall
 have HB := gO hbw
 clear eg K1 K2 F1 F2 hbw hs hs1 hcall hfi
 go_enter Tryz.func65, Tryz.ntmps65
 go_wp2_with (go_at_call 66; refine HC.out.mono ?_; rintro e w' ⟨rfl, hb'⟩)
 refine bodyPost_ret (v := .tuple #[.int .i64 (bZ (fun c => c.ns.contains n) s.cs), .bool (decide (0 ≤ bZ (fun c => c.ns.contains n) s.cs))]) (by simp [results, Tryz.results65, go_sem]) rfl ⟨rfl, Below.step HB.out hb'⟩

def Yv (v' : Sc) (s : Sy) (i : Nat) : Value := .tuple #[.agg (v'.vals s), .int .i64 (i : Int), .int .i64 0]
set_option maxHeartbeats 8000000 in
set_option maxRecDepth 100000 in
theorem RS (v : Sc) (s : Sy) (n : List UInt8) (cpu i : Nat) (w : World) (hs : oU w v s) (hk : fH s) (hf : ∀ c ∈ s.cs, c.ns.length ≤ 1000) (hi : s.named n = some i) (fC : cpu < s.h.aF) :
  Calls Tryz.prog 71 #[.agg #[.slice v.a1 v.n1 v.c1, .slice v.hc.az 2 v.hc.cz, .slice v.hc.am 2 v.hc.cm, .int .i64 s.h.aF, .slice v.hc.al v.hc.lc.length v.hc.cl, .slice v.hc.av s.h.live.length v.hc.cv, .slice v.a2 v.ys.length v.c2], .string ⟨n.toArray⟩, .int .i64 cpu] w fun ev w' => ∃ v', ev = .returned (Yv v' s i) ∧ kS w' w.heap.size s v' ∧ Below w.heap.size w w' := by
 obtain ⟨K1, K2, F1, F2, hsz, hbw⟩ := boxes2 w #[.slice v.a1 v.n1 v.c1, .slice v.hc.az 2 v.hc.cz, .slice v.hc.am 2 v.hc.cm, .int .i64 (s.h.aF : Int), .slice v.hc.al v.hc.lc.length v.hc.cl, .slice v.hc.av s.h.live.length v.hc.cv, .slice v.a2 v.ys.length v.c2] 47 #[.slice none 0 0, .slice none 0 0, .slice none 0 0, .int .i64 0, .slice none 0 0, .slice none 0 0, .slice none 0 0] 47
 have hs1 := hs.below hbw
 have hyl : v.ys.length ≤ 20 := by have := congrArg List.length hs.cy; rw [List.length_map] at this; rw [this]; exact hk.cl
 have hfi : bZ (fun c : Ca => c.ns.contains n) s.cs = (i : Int) := by
  unfold Sy.named at hi
  unfold bZ
  rw [hi]
 obtain ⟨k0, k1, k2, k3, k4, k5, k6⟩ := gA7 K1
 have HF := gO hf
 have HK := gO hk
 have HS1 := gO hs1
 have HB1 := gO hbw
 have HK1 := gO K1
 have HK2 := gO K2
 have HF2 := gO F2
 have hc0 : ¬ (cpu : Int) < 0 := by omega
 have hc1 : ¬ (s.h.aF : Int) ≤ cpu := by omega
 have hi0 : (0 : Int) ≤ i := by omega
 have Yw : w.heap.size < ((w.alloc (.cells #[.slice v.a1 v.n1 v.c1, .slice v.hc.az 2 v.hc.cz, .slice v.hc.am 2 v.hc.cm, .int .i64 (s.h.aF : Int), .slice v.hc.al v.hc.lc.length v.hc.cl, .slice v.hc.av s.h.live.length v.hc.cv, .slice v.a2 v.ys.length v.c2] 47)).alloc (.cells #[.slice none 0 0, .slice none 0 0, .slice none 0 0, .int .i64 0, .slice none 0 0, .slice none 0 0, .slice none 0 0] 47)).heap.size := by simp; omega
 clear hs hk hf hi K1 K2 F1 F2 hs1 hbw
 go_enter Tryz.func71, Tryz.ntmps71
 go_upto_region 1 with fail
 generalize (w.alloc (.cells #[.slice v.a1 v.n1 v.c1, .slice v.hc.az 2 v.hc.cz, .slice v.hc.am 2 v.hc.cm, .int .i64 (s.h.aF : Int), .slice v.hc.al v.hc.lc.length v.hc.cl, .slice v.hc.av s.h.live.length v.hc.cv, .slice v.a2 v.ys.length v.c2] 47)).alloc (.cells #[.slice none 0 0, .slice none 0 0, .slice none 0 0, .int .i64 0, .slice none 0 0, .slice none 0 0, .slice none 0 0] 47) = w2 at *
 go_upto_region 4 with (go_at_call 38; refine (jK v s w2 HS1.out HK.out HF.out).mono ?_; rintro ev w3 ⟨rfl, hb3⟩)
 have hs3 := gO (HS1.out.below hb3)
 have K13 := gO (aB HK1.out Yw hb3)
 have PI := gI Yw hb3.size
 clear k0 k1 k2 k3 k4 k5 k6
 obtain ⟨k0, k1, k2, k3, k4, k5, k6⟩ := gA7 K13.out
 have hnamed := BF v s n w3 hs3.out HF.out hyl
 rw [hfi, decide_eq_true hi0] at hnamed
 have Yx := gO hnamed
 have HB3 := gO hb3
 clear hnamed hfi
 go_upto_region 9 with (go_at_call 65; refine Yx.out.mono ?_; rintro ev w4 ⟨rfl, hb4⟩; have k34 := (hb4.cell (p := ⟨w.heap.size, 3, none⟩) PI).trans k3)
 have hs4 := hs3.out.below hb4
 have K14 := aB K13.out PI hb4
 have aCY := gI PI hb4.size
 clear k0 k1 k2 k3 k4 k5 k6 k34
 obtain ⟨k0, k1, k2, k3, k4, k5, k6⟩ := gA7 K14
 have Ue := gO (yY v s w4 hs4 HK.out HF.out)
 have HB4 := gO (Below.step HB3.out hb4)
 have hT1 : w.heap.size + 1 < w2.heap.size := hsz
 clear hs4 K14 hb4 K13 Yx
 have Yy := HB4.out.size
 go_wp2_with (go_at_call 39; refine Ue.out.mono ?_; rintro ev w5 ⟨v', he, hnew, hb5⟩; unfold Sc.vals at he; subst he; have K25 := aB HK2.out hT1 (Below.step HB4.out hb5); have F25 := aJ HF2.out hT1 (Below.step HB4.out hb5); obtain ⟨y0, y1, y2, y3, y4, y5, y6⟩ := gA7 K25; obtain ⟨f0, f1, f2, f3, f4, f5, f6⟩ := gF7 F25; skip)
 have hX1 : (fun k => k < w4.heap.size) (w.heap.size + 1) := gI hT1 Yy
 have hsw : w.heap.size ≤ w2.heap.size := by omega
 have aBh := Below.step HB4.out hb5
 have KX := (aH (aH (aH (aH (aH (aH (aH K25 0 (.slice v'.a1 v'.n1 v'.c1)) 1 (.slice v'.hc.az 2 v'.hc.cz)) 2 (.slice v'.hc.am 2 v'.hc.cm)) 3 (.int .i64 (s.h.aF : Int))) 4 (.slice v'.hc.al v'.hc.lc.length v'.hc.cl)) 5 (.slice v'.hc.av s.h.live.length v'.hc.cv)) 6 (.slice v'.a2 v'.ys.length v'.c2))
 simp only [gE, gG, gH] at KX
 have Ag := (SR.dS (SR.dS (SR.dS (SR.dS (SR.dS (SR.dS (SR.dS hnew hX1 0 (.slice v'.a1 v'.n1 v'.c1)) hX1 1 (.slice v'.hc.az 2 v'.hc.cz)) hX1 2 (.slice v'.hc.am 2 v'.hc.cm)) hX1 3 (.int .i64 (s.h.aF : Int))) hX1 4 (.slice v'.hc.al v'.hc.lc.length v'.hc.cl)) hX1 5 (.slice v'.hc.av s.h.live.length v'.hc.cv)) hX1 6 (.slice v'.a2 v'.ys.length v'.c2))
 have hle1 : w.heap.size ≤ w.heap.size + 1 := Nat.le_succ _
 have HBX2 := gO (Below.setCell (Below.setCell (Below.setCell (Below.setCell (Below.setCell (Below.setCell (Below.setCell (Below.trans HB1.out (aBh.mono hsw)) (show w.heap.size ≤ (⟨w.heap.size + 1, 0, none⟩ : Addr).block from hle1) (.slice v'.a1 v'.n1 v'.c1)) (show w.heap.size ≤ (⟨w.heap.size + 1, 1, none⟩ : Addr).block from hle1) (.slice v'.hc.az 2 v'.hc.cz)) (show w.heap.size ≤ (⟨w.heap.size + 1, 2, none⟩ : Addr).block from hle1) (.slice v'.hc.am 2 v'.hc.cm)) (show w.heap.size ≤ (⟨w.heap.size + 1, 3, none⟩ : Addr).block from hle1) (.int .i64 (s.h.aF : Int))) (show w.heap.size ≤ (⟨w.heap.size + 1, 4, none⟩ : Addr).block from hle1) (.slice v'.hc.al v'.hc.lc.length v'.hc.cl)) (show w.heap.size ≤ (⟨w.heap.size + 1, 5, none⟩ : Addr).block from hle1) (.slice v'.hc.av s.h.live.length v'.hc.cv)) (show w.heap.size ≤ (⟨w.heap.size + 1, 6, none⟩ : Addr).block from hle1) (.slice v'.a2 v'.ys.length v'.c2))
 generalize ((((((w5.setCell ⟨w.heap.size + 1, 0, none⟩ (.slice v'.a1 v'.n1 v'.c1)).setCell ⟨w.heap.size + 1, 1, none⟩ (.slice v'.hc.az 2 v'.hc.cz)).setCell ⟨w.heap.size + 1, 2, none⟩ (.slice v'.hc.am 2 v'.hc.cm)).setCell ⟨w.heap.size + 1, 3, none⟩ (.int .i64 (s.h.aF : Int))).setCell ⟨w.heap.size + 1, 4, none⟩ (.slice v'.hc.al v'.hc.lc.length v'.hc.cl)).setCell ⟨w.heap.size + 1, 5, none⟩ (.slice v'.hc.av s.h.live.length v'.hc.cv)).setCell ⟨w.heap.size + 1, 6, none⟩ (.slice v'.a2 v'.ys.length v'.c2) = wx at *
 refine bodyPost_ret (v := .tuple #[.agg #[.slice v'.a1 v'.n1 v'.c1, .slice v'.hc.az 2 v'.hc.cz, .slice v'.hc.am 2 v'.hc.cm, .int .i64 (s.h.aF : Int), .slice v'.hc.al v'.hc.lc.length v'.hc.cl, .slice v'.hc.av s.h.live.length v'.hc.cv, .slice v'.a2 v'.ys.length v'.c2], .int .i64 (i : Int), .int .i64 0]) (by simp [results, Tryz.results71, go_sem, KX]) rfl ⟨v', rfl, Ag.ZK (by show w.heap.size < w4.heap.size; omega) (fun k hk => gI hk (gQ hsw Yy)) (Nat.lt_irrefl _), HBX2.out⟩
end
end Go.Proofs.YtcmpmobhongkiaaGreatDoor
