/- Sb11: texts of this claim, joined. -/
import Derived.Test.YtkcaheebaicinaaGreatDoorSN39
/- Contracts of package slab: named, ask. -/
namespace Go.Proofs.YtkcaheebaicinaaGreatDoor
open Go.RowKit
set_option linter.unusedVariables false
set_option linter.unusedSimpArgs false

set_option maxHeartbeats 4000000 in
set_option maxRecDepth 100000 in
/-- a cache by one of its names -/
theorem namedS_ok (v : Sc) (s : Sy) (n : List UInt8) (w : World) (hs : SyAt w v s) (hf : ∀ c ∈ s.cs, c.ns.length ≤ 1000) (hyl : v.ys.length ≤ 20) :
    Calls Tryz.prog 24 #[.agg #[.slice v.a1 v.n1 v.c1, .slice v.hc.az 2 v.hc.cz, .slice v.hc.am 2 v.hc.cm, .int .i64 s.h.cpus, .slice v.hc.al v.hc.lc.length v.hc.cl, .slice v.hc.av s.h.live.length v.hc.cv, .slice v.a2 v.ys.length v.c2], .string ⟨n.toArray⟩] w fun ev w' => ev = .returned (.tuple #[.int .i64 (findI (fun c => c.ns.contains n) s.cs), .bool (decide (0 ≤ findI (fun c => c.ns.contains n) s.cs))]) ∧ Below w.heap.size w w' := by
  have eg : ∀ args w, (callFunc 58 args).run Tryz.prog w = .ok (.enter 58 args) w := enters_of Tryz.func58 (by kernel_rfl) rfl
  obtain ⟨K1, K2, F1, F2, hsz, hbw⟩ := boxes2 w #[.slice v.a1 v.n1 v.c1, .slice v.hc.az 2 v.hc.cz, .slice v.hc.am 2 v.hc.cm, .int .i64 (s.h.cpus : Int), .slice v.hc.al v.hc.lc.length v.hc.cl, .slice v.hc.av s.h.live.length v.hc.cv, .slice v.a2 v.ys.length v.c2] 38 #[.string ⟨n.toArray⟩] 9
  have k6 := K1 6
  have p0 := K2 0
  simp only [List.getElem?_toArray, List.getElem?_cons_zero, List.getElem?_cons_succ] at k6 p0
  have hs1 := hs.below hbw
  have hfi : findI (fun y : Cc => y.c.ns.contains n) v.ys = findI (fun c => c.ns.contains n) s.cs := by
    rw [← hs.cy]
    unfold findI
    rw [List.findIdx?_map]
    rfl
  have hcall := indexFuncCc v.a2 v.ys.length v.c2 v.ys 58 #[.pointer (some ⟨w.heap.size + 1, 0, none⟩)] (fun y => y.c.ns.contains n) _ rfl (by omega) hs1.rc eg (fun W hW y hy => namedC_ok y n (w.heap.size + 1) W ((hs1.below hW).ca y hy) (by
    have h1 := (hs1.ca y hy).l1
    have h2 := hf y.c (by rw [← hs.cy]; exact List.mem_map_of_mem hy)
    omega) (Nat.lt_of_lt_of_le hsz hW.size) ((hW.cell (p := ⟨w.heap.size + 1, 0, none⟩) hsz).trans p0))
  rw [hfi] at hcall
  have HC := Hid.mk hcall
  have HB := Hid.mk hbw
  clear eg K1 K2 F1 F2 hbw hs hs1 hcall hfi
  go_enter Tryz.func24, Tryz.ntmps24
  go_wp2_with (go_at_call 26; refine HC.out.mono ?_; rintro e w' ⟨rfl, hb'⟩)
  refine bodyPost_ret (v := .tuple #[.int .i64 (findI (fun c => c.ns.contains n) s.cs), .bool (decide (0 ≤ findI (fun c => c.ns.contains n) s.cs))]) (by simp [results, Tryz.results24, go_sem]) rfl ⟨rfl, Below.step HB.out hb'⟩

/-- ask: a copy, and the cache -/
def askV (v' : Sc) (s : Sy) (i : Nat) : Value := .tuple #[.agg (v'.vals s), .int .i64 (i : Int), .int .i64 0]
set_option maxHeartbeats 8000000 in
set_option maxRecDepth 100000 in
theorem askS_ok (v : Sc) (s : Sy) (n : List UInt8) (cpu i : Nat) (w : World) (hs : SyAt w v s) (hk : SOk s) (hf : ∀ c ∈ s.cs, c.ns.length ≤ 1000) (hi : s.named n = some i) (hcpu : cpu < s.h.cpus) :
    Calls Tryz.prog 31 #[.agg #[.slice v.a1 v.n1 v.c1, .slice v.hc.az 2 v.hc.cz, .slice v.hc.am 2 v.hc.cm, .int .i64 s.h.cpus, .slice v.hc.al v.hc.lc.length v.hc.cl, .slice v.hc.av s.h.live.length v.hc.cv, .slice v.a2 v.ys.length v.c2], .string ⟨n.toArray⟩, .int .i64 cpu] w fun ev w' => ∃ v', ev = .returned (askV v' s i) ∧ SNew w' w.heap.size s v' ∧ Below w.heap.size w w' := by
  obtain ⟨K1, K2, F1, F2, hsz, hbw⟩ := boxes2 w #[.slice v.a1 v.n1 v.c1, .slice v.hc.az 2 v.hc.cz, .slice v.hc.am 2 v.hc.cm, .int .i64 (s.h.cpus : Int), .slice v.hc.al v.hc.lc.length v.hc.cl, .slice v.hc.av s.h.live.length v.hc.cv, .slice v.a2 v.ys.length v.c2] 38 #[.slice none 0 0, .slice none 0 0, .slice none 0 0, .int .i64 0, .slice none 0 0, .slice none 0 0, .slice none 0 0] 38
  have hs1 := hs.below hbw
  have hyl : v.ys.length ≤ 20 := by have := congrArg List.length hs.cy; rw [List.length_map] at this; rw [this]; exact hk.cl
  have hfi : findI (fun c : Ca => c.ns.contains n) s.cs = (i : Int) := by
    unfold Sy.named at hi
    unfold findI
    rw [hi]
  have k0 := K1 0
  have k1 := K1 1
  have k2 := K1 2
  have k3 := K1 3
  have k4 := K1 4
  have k5 := K1 5
  have k6 := K1 6
  simp only [List.getElem?_toArray, List.getElem?_cons_zero, List.getElem?_cons_succ] at k0 k1 k2 k3 k4 k5 k6
  have HF := Hid.mk hf
  have HK := Hid.mk hk
  have HS1 := Hid.mk hs1
  have HB1 := Hid.mk hbw
  have HK1 := Hid.mk K1
  have HK2 := Hid.mk K2
  have HF2 := Hid.mk F2
  have hc0 : ¬ (cpu : Int) < 0 := by omega
  have hc1 : ¬ (s.h.cpus : Int) ≤ cpu := by omega
  have hi0 : (0 : Int) ≤ i := by omega
  have hwsz : w.heap.size < ((w.alloc (.cells #[.slice v.a1 v.n1 v.c1, .slice v.hc.az 2 v.hc.cz, .slice v.hc.am 2 v.hc.cm, .int .i64 (s.h.cpus : Int), .slice v.hc.al v.hc.lc.length v.hc.cl, .slice v.hc.av s.h.live.length v.hc.cv, .slice v.a2 v.ys.length v.c2] 38)).alloc (.cells #[.slice none 0 0, .slice none 0 0, .slice none 0 0, .int .i64 0, .slice none 0 0, .slice none 0 0, .slice none 0 0] 38)).heap.size := by simp; omega
  clear hs hk hf hi K1 K2 F1 F2 hs1 hbw
  go_enter Tryz.func31, Tryz.ntmps31
  go_upto_region 1 with fail
  generalize (w.alloc (.cells #[.slice v.a1 v.n1 v.c1, .slice v.hc.az 2 v.hc.cz, .slice v.hc.am 2 v.hc.cm, .int .i64 (s.h.cpus : Int), .slice v.hc.al v.hc.lc.length v.hc.cl, .slice v.hc.av s.h.live.length v.hc.cv, .slice v.a2 v.ys.length v.c2] 38)).alloc (.cells #[.slice none 0 0, .slice none 0 0, .slice none 0 0, .int .i64 0, .slice none 0 0, .slice none 0 0, .slice none 0 0] 38) = w2 at *
  go_upto_region 4 with (go_at_call 11; refine (checkS_ok v s w2 HS1.out HK.out HF.out).mono ?_; rintro ev w3 ⟨rfl, hb3⟩)
  have hs3 := Hid.mk (HS1.out.below hb3)
  have K13 := Hid.mk (box_step HK1.out hwsz hb3)
  have hwsz3 := Nat.lt_of_lt_of_le hwsz hb3.size
  clear k0 k1 k2 k3 k4 k5 k6
  have k0 := K13.out 0
  have k1 := K13.out 1
  have k2 := K13.out 2
  have k3 := K13.out 3
  have k4 := K13.out 4
  have k5 := K13.out 5
  have k6 := K13.out 6
  simp only [List.getElem?_toArray, List.getElem?_cons_zero, List.getElem?_cons_succ] at k0 k1 k2 k3 k4 k5 k6
  have hnamed := namedS_ok v s n w3 hs3.out HF.out hyl
  rw [hfi, decide_eq_true hi0] at hnamed
  have HNM := Hid.mk hnamed
  have HB3 := Hid.mk hb3
  clear hnamed hfi
  go_upto_region 9 with (go_at_call 24; refine HNM.out.mono ?_; rintro ev w4 ⟨rfl, hb4⟩; have k34 := (hb4.cell (p := ⟨w.heap.size, 3, none⟩) hwsz3).trans k3)
  have hs4 := hs3.out.below hb4
  have K14 := box_step K13.out hwsz3 hb4
  have hwsz4 := Nat.lt_of_lt_of_le hwsz3 hb4.size
  clear k0 k1 k2 k3 k4 k5 k6 k34
  have k0 := K14 0
  have k1 := K14 1
  have k2 := K14 2
  have k3 := K14 3
  have k4 := K14 4
  have k5 := K14 5
  have k6 := K14 6
  simp only [List.getElem?_toArray, List.getElem?_cons_zero, List.getElem?_cons_succ] at k0 k1 k2 k3 k4 k5 k6
  have HCP := Hid.mk (copyS_ok v s w4 hs4 HK.out HF.out)
  have HB4 := Hid.mk (Below.step HB3.out hb4)
  have hT1 : w.heap.size + 1 < w2.heap.size := hsz
  clear hs4 K14 hb4 K13 HNM
  have hb24 := HB4.out.size
  go_wp2_with (go_at_call 25; refine HCP.out.mono ?_; rintro ev w5 ⟨v', he, hnew, hb5⟩; unfold Sc.vals at he; subst he; have K25 := box_step HK2.out hT1 (Below.step HB4.out hb5); have F25 := frz_step HF2.out hT1 (Below.step HB4.out hb5); have y0 := K25 0; have y1 := K25 1; have y2 := K25 2; have y3 := K25 3; have y4 := K25 4; have y5 := K25 5; have y6 := K25 6; have f0 := F25 0; have f1 := F25 1; have f2 := F25 2; have f3 := F25 3; have f4 := F25 4; have f5 := F25 5; have f6 := F25 6; simp only [List.getElem?_toArray, List.getElem?_cons_zero, List.getElem?_cons_succ] at y0 y1 y2 y3 y4 y5 y6)
  have hX1 : (fun k => k < w4.heap.size) (w.heap.size + 1) := Nat.lt_of_lt_of_le hT1 hb24
  have hsw : w.heap.size ≤ w2.heap.size := by omega
  have hb35 := Below.step HB4.out hb5
  have KX := (box_set (box_set (box_set (box_set (box_set (box_set (box_set K25 0 (.slice v'.a1 v'.n1 v'.c1)) 1 (.slice v'.hc.az 2 v'.hc.cz)) 2 (.slice v'.hc.am 2 v'.hc.cm)) 3 (.int .i64 (s.h.cpus : Int))) 4 (.slice v'.hc.al v'.hc.lc.length v'.hc.cl)) 5 (.slice v'.hc.av s.h.live.length v'.hc.cv)) 6 (.slice v'.a2 v'.ys.length v'.c2))
  simp only [List.setIfInBounds_toArray, List.set_cons_zero, List.set_cons_succ] at KX
  have HSX := (SR.farX (SR.farX (SR.farX (SR.farX (SR.farX (SR.farX (SR.farX hnew hX1 0 (.slice v'.a1 v'.n1 v'.c1)) hX1 1 (.slice v'.hc.az 2 v'.hc.cz)) hX1 2 (.slice v'.hc.am 2 v'.hc.cm)) hX1 3 (.int .i64 (s.h.cpus : Int))) hX1 4 (.slice v'.hc.al v'.hc.lc.length v'.hc.cl)) hX1 5 (.slice v'.hc.av s.h.live.length v'.hc.cv)) hX1 6 (.slice v'.a2 v'.ys.length v'.c2))
  have hle1 : w.heap.size ≤ w.heap.size + 1 := Nat.le_succ _
  have HBX2 := Hid.mk (Below.setCell (Below.setCell (Below.setCell (Below.setCell (Below.setCell (Below.setCell (Below.setCell (Below.trans HB1.out (hb35.mono hsw)) (show w.heap.size ≤ (⟨w.heap.size + 1, 0, none⟩ : Addr).block from hle1) (.slice v'.a1 v'.n1 v'.c1)) (show w.heap.size ≤ (⟨w.heap.size + 1, 1, none⟩ : Addr).block from hle1) (.slice v'.hc.az 2 v'.hc.cz)) (show w.heap.size ≤ (⟨w.heap.size + 1, 2, none⟩ : Addr).block from hle1) (.slice v'.hc.am 2 v'.hc.cm)) (show w.heap.size ≤ (⟨w.heap.size + 1, 3, none⟩ : Addr).block from hle1) (.int .i64 (s.h.cpus : Int))) (show w.heap.size ≤ (⟨w.heap.size + 1, 4, none⟩ : Addr).block from hle1) (.slice v'.hc.al v'.hc.lc.length v'.hc.cl)) (show w.heap.size ≤ (⟨w.heap.size + 1, 5, none⟩ : Addr).block from hle1) (.slice v'.hc.av s.h.live.length v'.hc.cv)) (show w.heap.size ≤ (⟨w.heap.size + 1, 6, none⟩ : Addr).block from hle1) (.slice v'.a2 v'.ys.length v'.c2))
  generalize ((((((w5.setCell ⟨w.heap.size + 1, 0, none⟩ (.slice v'.a1 v'.n1 v'.c1)).setCell ⟨w.heap.size + 1, 1, none⟩ (.slice v'.hc.az 2 v'.hc.cz)).setCell ⟨w.heap.size + 1, 2, none⟩ (.slice v'.hc.am 2 v'.hc.cm)).setCell ⟨w.heap.size + 1, 3, none⟩ (.int .i64 (s.h.cpus : Int))).setCell ⟨w.heap.size + 1, 4, none⟩ (.slice v'.hc.al v'.hc.lc.length v'.hc.cl)).setCell ⟨w.heap.size + 1, 5, none⟩ (.slice v'.hc.av s.h.live.length v'.hc.cv)).setCell ⟨w.heap.size + 1, 6, none⟩ (.slice v'.a2 v'.ys.length v'.c2) = wx at *
  refine bodyPost_ret (v := .tuple #[.agg #[.slice v'.a1 v'.n1 v'.c1, .slice v'.hc.az 2 v'.hc.cz, .slice v'.hc.am 2 v'.hc.cm, .int .i64 (s.h.cpus : Int), .slice v'.hc.al v'.hc.lc.length v'.hc.cl, .slice v'.hc.av s.h.live.length v'.hc.cv, .slice v'.a2 v'.ys.length v'.c2], .int .i64 (i : Int), .int .i64 0]) (by simp [results, Tryz.results31, go_sem, KX]) rfl ⟨v', rfl, HSX.toX (by show w.heap.size < w4.heap.size; omega) (fun k hk => Nat.lt_of_lt_of_le hk (Nat.le_trans hsw hb24)) (Nat.lt_irrefl _), HBX2.out⟩
end Go.Proofs.YtkcaheebaicinaaGreatDoor
