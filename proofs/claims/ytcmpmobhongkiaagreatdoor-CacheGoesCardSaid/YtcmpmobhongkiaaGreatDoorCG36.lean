/- texts of this claim, joined. -/
import Derived.Test.YtcmpmobhongkiaaGreatDoorCG0
import Derived.Test.YtcmpmobhongkiaaGreatDoorCG17
import Derived.Test.YtcmpmobhongkiaaGreatDoorCG35
set_option linter.unusedVariables false
set_option linter.unusedSimpArgs false
namespace Go.Proofs.YtcmpmobhongkiaaGreatDoor
section
open Go.RowKit

def aD3 (v : Sc) (s : Sy) (i cpu : Nat) (G : Nat) (X : Nat → Prop) (w : World) (ev : Ending) (w' : World) : Prop := (s.one i cpu = none ∧ ev = .returned (.tuple #[.int .i64 0, .int .i64 6]) ∧ Below w.heap.size w w') ∨ (∃ (s' : Sy) (a : Int) (v' : Sc), s.one i cpu = some (s', a) ∧ ev = .returned (.tuple #[.int .i64 a, .int .i64 0]) ∧ SS w' G X s' v' ∧ Safe X w w' ∧ v'.a2 = v.a2)
def RI (s' : Sy) (i k : Nat) : Prop := ∃ c x, s'.cs[i]? = some c ∧ c.sl[k]? = some x ∧ 0 < x.n ∧ x.n ≤ 64 ∧ 0 ≤ x.h ∧ x.h < 4096 ∧ s'.w.length = 4096 ∧ s'.cs.length ≤ 20 ∧ c.sl.length ≤ 256

set_option maxHeartbeats 8000000 in
set_option maxRecDepth 100000 in
theorem Vg (v : Sc) (s : Sy) (G i cpu : Nat) (X : Nat → Prop) (w : World) (hs : SS w G X s v) (hk : dM s) (hi : i < v.ys.length) (dP : cpu < s.h.aF) (ho : yK w) (hX0 : X 1) (hch : ∀ s' k, s.choose i cpu = some (s', k) → RI s' i k) :
  Calls Tryz.prog 72 #[.pointer (some ⟨G, 0, none⟩), .int .i64 i, .int .i64 cpu] w (aD3 v s i cpu G X w) := by
 have hC := JM v s G i cpu X w hs hk hi dP ho hX0
 cases hco : s.choose i cpu with
 | none =>
  have HO : Hid (s.one i cpu = none) := by
   unfold Hid Sy.one
   rw [hco]
  have HC : Hid (Calls Tryz.prog 123 #[.pointer (some ⟨G, 0, none⟩), .int .i64 i, .int .i64 cpu] w fun ev w' => ev = .returned (.tuple #[.int .i64 0, .int .i64 6]) ∧ Below w.heap.size w w') := by
   refine hC.mono ?_
   rintro ev w' (⟨_, h, hb⟩ | ⟨s', k, v', h, _⟩)
   ·exact ⟨h, hb⟩
   ·rw [hco] at h
    cases h
  clear hC hco hch hs hk
  go_enter Tryz.func72, Tryz.ntmps72
  go_wp2_with (go_at_call 123; refine HC.out.mono ?_; rintro ev w4 ⟨rfl, hb4⟩)
  exact bodyPost_ret (v := .tuple #[.int .i64 0, .int .i64 6]) (by simp [results, Tryz.results72, go_sem]) rfl (.inl ⟨HO.out, rfl, hb4⟩)
 | some r =>
  obtain ⟨s2, k⟩ := r
  obtain ⟨c, x, hc1, hc2, hxn, hxm, hx0, hx4, hwl, hcl, hsl⟩ := hch s2 k hco
  have HC : Hid (Calls Tryz.prog 123 #[.pointer (some ⟨G, 0, none⟩), .int .i64 i, .int .i64 cpu] w fun ev w' => ∃ v', ev = .returned (.tuple #[.int .i64 k, .int .i64 0]) ∧ SS w' G X s2 v' ∧ Safe X w w' ∧ v'.a2 = v.a2) := by
   refine hC.mono ?_
   rintro ev w' (⟨h, _⟩ | ⟨s', k', v', h, h1, h2, h3, h4⟩)
   ·rw [hco] at h
    cases h
   ·rw [hco] at h
    obtain ⟨rfl, rfl⟩ : s2 = s' ∧ k = k' := by simpa using h
    exact ⟨v', h1, h2, h3, h4⟩
  have HO : Hid (s.one i cpu = some (s2.eU i { c with sl := c.sl.set k ⟨x.p, x.n - 1, s2.w.getD x.h.toNat 0⟩ }, x.h)) := by
   unfold Hid Sy.one
   rw [hco]
   simp only [Sy.pop, hc1, hc2]
  have HC1 := gO hc1
  have HC2 := gO hc2
  clear hC hco hch hs hk hc1 hc2
  go_enter Tryz.func72, Tryz.ntmps72
  go_upto_region 4 with (go_at_call 123; refine HC.out.mono ?_; rintro ev w2 ⟨v2, rfl, hs2, hf2, hv2⟩)
  have hi2 : i < v2.ys.length := by
   have h1 := congrArg List.length hs2.r.cy
   simp only [List.length_map] at h1
   have h2 := (List.getElem?_eq_some_iff.1 HC1.out).1
   omega
  have aIc : v2.ys.length ≤ 20 := by
   have h1 := congrArg List.length hs2.r.cy
   simp only [List.length_map] at h1
   omega
  have Wy : v2.ys[i].c = c := by
   have h1 := congrArg (·[i]?) hs2.r.cy
   simp only [List.getElem?_map, gJ hi2, Option.map_some] at h1
   rw [HC1.out] at h1
   exact gP h1
  obtain ⟨gc, ha2, kW, Ey, JJ, hcc⟩ := hs2.r.LG hi2
  obtain ⟨hr1, hr2, hr3⟩ := hs2.r.y (gL hi2)
  obtain ⟨y, hy⟩ : ∃ y, v2.ys[i] = y := ⟨_, rfl⟩
  rw [hy] at hcc hr2 Wy
  subst Wy
  obtain ⟨hks, hkx⟩ := List.getElem?_eq_some_iff.1 HC2.out
  have hcell : ∀ j, j < 3 → ∃ g, y.a2 = some ⟨g, 0, none⟩ ∧ g < w2.heap.size ∧ w2.cell? ⟨g, k * 3 + j, none⟩ = (aY x)[j]? ∧ w2.frozen? ⟨g, k * 3 + j, none⟩ = false := fun j hj => by
   have hlen : k * 3 + j < (flat aY y.c.sl).length := by rw [flat_length aK]; omega
   obtain ⟨g, h1, _, h2, h3, h4⟩ := lI hr2 (k * 3 + j) hlen
   refine ⟨g, h1, h2, ?_, h4⟩
   rw [h3, ← hkx, ← flat_get aK y.c.sl k hks j hj]
   exact (gJ hlen).symm
  obtain ⟨gs, hgs, GU, s1, hq4⟩ := hcell 1 (by decide)
  obtain ⟨gs2, BH, hq2, s2', f2⟩ := hcell 2 (by decide)
  obtain ⟨gs1, Gn, hq1, hq3, f1⟩ := hcell 1 (by decide)
  obtain rfl : gs = gs2 := by rw [hgs] at BH; simpa using BH
  obtain rfl : gs = gs1 := by rw [hgs] at Gn; simpa using Gn
  simp only [aY, vI, gC, gD] at s1 s2'
  have b4 := (hcc 4 (by decide)).1
  simp only [bW, vI, gC, gD] at b4
  rw [hgs] at b4
  have g6 := hs2.k 6
  have g0 := hs2.k 0
  unfold Sc.vals at g0 g6
  simp only [gB, gC, gD] at g0 g6
  rw [ha2] at g6
  have hsy := hs2.r.at
  have hlw := hsy.lw
  have hxl : x.h.toNat < s2.w.length := by omega
  obtain ⟨wb, wo, hwb, aId, aAR⟩ := hsy.rw x.h.toNat (vI s2.w[x.h.toNat]) (by rw [List.getElem?_map, gJ hxl]; rfl)
  have hwd : s2.w.getD x.h.toNat 0 = s2.w[x.h.toNat] := by simp [List.getD, gJ hxl]
  rw [hwb] at g0
  have hl2 : y.c.sl.length = y.n2 := aZ aK (by decide) hr2
  have hkn : (k : Int) < y.n2 := by omega
  have hii : (i : Int) < v2.ys.length := by omega
  have aIe : x.h < v2.n1 := by omega
  have hxn : (x.n : Int) - 1 = ((x.n - 1 : Nat) : Int) := by omega
  have hpop := hs2.aC9 hi2 hy hgs hks (s2.w[x.h.toNat]) (n' := x.n - 1)
  rw [hkx] at hpop
  rw [hwd] at HO
  obtain ⟨u, hu⟩ : ∃ u, s2.w[x.h.toNat] = u := ⟨_, rfl⟩
  rw [hu] at hpop HO aAR
  unfold vI at aAR hpop
  have HP := gO hpop
  have HF2 := gO hf2
  have HV2 := gO hv2
  clear hq1 hq2 hq3 hq4 hpop hf2 hv2 hcell hgs Gn BH hcc hy hwb hsy hlw hwd hu hkx hl2 ha2 hr1 hr2 hr3 hwl hcl hsl hks HC1 HC2 HC hxl
  go_wp2_with fail
  obtain ⟨v', t1, t2, t3⟩ := HP.out
  exact bodyPost_ret (v := .tuple #[.int .i64 x.h, .int .i64 0]) (by simp [results, Tryz.results72, go_sem]) rfl (.inr ⟨_, x.h, v', HO.out, rfl, t1, HF2.out.trans t2, t3.trans HV2.out⟩)
end
section
open Go.RowKit

section
variable {W W' : World} {G : Nat} {X : Nat → Prop} {s : Sy} {v : Sc}
theorem SS.out (hs : SS W G X s v) {row : Option Nat} (hg : W.grownBy W' row) (hrow : ∀ k, row = some k → X k) {Z : Nat → Prop} (hZ : ∀ k, Z k → X k ∨ (W.heap.size ≤ k ∧ k < W'.heap.size)) : SS W' G Z s v := by
 have hG : some G ≠ row := fun e => hs.r.hr.xg (hrow G e.symm)
 have h1 : SS W' G X s v := ⟨⟨⟨fun r hr => uY (hs.r.own.each r hr) fun k hk hlt => hg.block k hlt fun e => (hs.r.og r hr k hk).2 (hrow k e.symm), hs.r.own.CP⟩, hs.r.og,
  hs.r.hr.kept (Y := fun k => ¬ X k) (Safe.jM hg fun k hk e => hk (hrow k e.symm)) (fun q hq k hk e => by
   rcases List.mem_append.1 hq with hq | hq
   ·exact (hs.r.hr.og q hq k hk).2 e
   ·exact hs.r.hr.rx q hq k hk e), hs.r.hd, hs.r.cy⟩, bH hs.k hs.r.hr.gs hg hG, bI hs.fz hs.r.hr.gs hg hG⟩
 refine h1.more fun k hk => ?_
 rcases hZ k hk with h | ⟨h2, h3⟩
 ·refine ⟨h1.r.hr.xs k h, h1.r.Ut h, fun q hq e => ?_⟩
  rcases List.mem_append.1 hq with hq | hq
  ·exact (h1.r.hr.og q hq k e).2 h
  ·exact h1.r.hr.rx q hq k e h
 ·refine ⟨h3, ?_, fun q hq e => ?_⟩
  ·rintro (rfl | ⟨r, hr, e⟩)
   ·have := hs.r.hr.gs; omega
   ·have := hs.r.lt r hr k e; omega
  ·have := hs.r.hr.lt q hq k e; omega
end
theorem Dc {s s' : Sy} {i cpu j : Nat} {l : List Int} (h : s.bulk i cpu j = some (s', l)) (h1 : s'.one i cpu = none) : ∀ m, j < m → s.bulk i cpu m = none
 | 0, hm => by omega
 | m + 1, hm => by
  by_cases e : j = m
  ·subst e
   unfold Sy.bulk
   rw [h]
   simp only [h1]
  ·unfold Sy.bulk
   rw [Dc h h1 m (by omega)]
theorem Df {s s' t : Sy} {i cpu j : Nat} {l : List Int} {a : Int} (h : s.bulk i cpu j = some (s', l)) (h1 : s'.one i cpu = some (t, a)) : s.bulk i cpu (j + 1) = some (t, l ++ [a]) := by
 unfold Sy.bulk
 rw [h]
 simp only [h1]
theorem dM.chosen {s : Sy} (hk : dM s) {i cpu : Nat} {c : Ca} (hi : s.cs[i]? = some c) (dP : cpu < s.h.aF) : ∀ s' k, s.choose i cpu = some (s', k) → RI s' i k := fun s' k hc => by
 obtain ⟨h1, h2, c', x, h3, h4, h5⟩ := hk.choose hi dP hc
 have hcm := gM h3
 have hxm := gM h4
 obtain ⟨m, _, h6, _, h7, h8, _⟩ := h1.first hcm hxm h5
 exact ⟨c', x, h3, h4, h5, gQ ((h1.ck c' hcm).sk x hxm).Gv (h1.ck c' hcm).r64, h7, h8, h1.wl, h1.cl, (h1.ck c' hcm).kV h1.hk⟩

def aAS (s : Sy) (i cpu many : Nat) (w : World) (ev : Ending) (w' : World) : Prop := (s.bulk i cpu many = none ∧ ev = .returned (.tuple #[.agg #[.slice none 0 0, .slice none 0 0, .slice none 0 0, .int .i64 0, .slice none 0 0, .slice none 0 0, .slice none 0 0], .slice none 0 0, .int .i64 6]) ∧ Below w.heap.size w w') ∨ (∃ (s' : Sy) (l : List Int) (v' : Sc) (a' : Option Addr) (c' : Nat), s.bulk i cpu many = some (s', l) ∧ ev = .returned (.tuple #[.agg (v'.vals s'), .slice a' many c', .int .i64 0]) ∧ jY w' w.heap.size s' v' ∧ l.length = many ∧ w'.ownsRow w.heap.size 3 1 (.slice a' many c') many (l.map vI) ∧ Below w.heap.size w w')

set_option maxHeartbeats 8000000 in
set_option maxRecDepth 100000 in
theorem RN (v : Sc) (s : Sy) (n : List UInt8) (cpu i many : Nat) (w : World) (hs : qF w v s) (hk : dM s) (hf : ∀ c ∈ s.cs, c.ns.length ≤ 1000) (hi : s.named n = some i) (dP : cpu < s.h.aF) (hm1 : 1 ≤ many) (hm2 : many ≤ 256) (ho : yK w) :
  Calls Tryz.prog 36 #[.agg #[.slice v.a1 v.n1 v.c1, .slice v.hc.az 2 v.hc.cz, .slice v.hc.am 2 v.hc.cm, .int .i64 (s.h.aF : Int), .slice v.hc.al v.hc.lc.length v.hc.cl, .slice v.hc.av s.h.live.length v.hc.cv, .slice v.a2 v.ys.length v.c2], .string ⟨n.toArray⟩, .int .i64 cpu, .int .i64 many] w (aAS s i cpu many w) := by
 obtain ⟨K1, K2, F1, F2, hsz, hbw⟩ := boxes2 w #[.slice v.a1 v.n1 v.c1, .slice v.hc.az 2 v.hc.cz, .slice v.hc.am 2 v.hc.cm, .int .i64 (s.h.aF : Int), .slice v.hc.al v.hc.lc.length v.hc.cl, .slice v.hc.av s.h.live.length v.hc.cv, .slice v.a2 v.ys.length v.c2] 47 #[.slice none 0 0, .slice none 0 0, .slice none 0 0, .int .i64 0, .slice none 0 0, .slice none 0 0, .slice none 0 0] 47
 have hil : i < s.cs.length := by
  unfold Sy.named at hi
  rw [List.findIdx?_eq_some_iff_getElem] at hi
  exact hi.1
 have hs1 := hs.below hbw
 have HA := gO (Eu v s n cpu i _ hs1 hk hf hi dP)
 obtain ⟨k0, k1, k2, k3, k4, k5, k6⟩ := gA7 K1
 have HK := gO hk
 have HB1 := gO hbw
 have HK1 := gO K1
 have HF1 := gO F1
 have HK2 := gO K2
 have HF2 := gO F2
 have hsz1 : w.heap.size < ((w.alloc (.cells #[.slice v.a1 v.n1 v.c1, .slice v.hc.az 2 v.hc.cz, .slice v.hc.am 2 v.hc.cm, .int .i64 (s.h.aF : Int), .slice v.hc.al v.hc.lc.length v.hc.cl, .slice v.hc.av s.h.live.length v.hc.cv, .slice v.a2 v.ys.length v.c2] 47)).alloc (.cells #[.slice none 0 0, .slice none 0 0, .slice none 0 0, .int .i64 0, .slice none 0 0, .slice none 0 0, .slice none 0 0] 47)).heap.size := by simp; omega
 have aD4 : ¬ (many : Int) < 1 := by omega
 have aD5 : ¬ (256 : Int) < many := by omega
 clear hs hk hf hi hs1 K1 K2 F1 F2 hbw
 go_enter Tryz.func36, Tryz.ntmps36
 go_upto_region 1 with fail
 generalize (w.alloc (.cells #[.slice v.a1 v.n1 v.c1, .slice v.hc.az 2 v.hc.cz, .slice v.hc.am 2 v.hc.cm, .int .i64 (s.h.aF : Int), .slice v.hc.al v.hc.lc.length v.hc.cl, .slice v.hc.av s.h.live.length v.hc.cv, .slice v.a2 v.ys.length v.c2] 47)).alloc (.cells #[.slice none 0 0, .slice none 0 0, .slice none 0 0, .int .i64 0, .slice none 0 0, .slice none 0 0, .slice none 0 0] 47) = w1 at *
 go_upto_region 6 with (go_at_call 71; refine HA.out.mono ?_; rintro ev w2 ⟨v1, he, hnew, hb2⟩; unfold UY Sc.vals at he; subst he; have K12 := aB HK1.out hsz1 hb2; have F12 := aJ HF1.out hsz1 hb2; obtain ⟨y0, y1, y2, y3, y4, y5, y6⟩ := gA7 K12; obtain ⟨f0, f1, f2, f3, f4, f5, f6⟩ := gF7 F12; skip)
 have hw1 : w.heap.size ≤ w1.heap.size := HB1.out.size
 have rV : SR w2 w.heap.size (fun k => k < w.heap.size ∨ k = w.heap.size + 1) s v1 := SR.lift hnew (Nat.lt_of_succ_lt hsz) (fun k hk => by omega) (by omega)
 have hfin := SS.put7 rV K12 F12
 have HS3 := gO hfin
 have aAT := aB HK2.out hsz hb2
 have aAU := aJ HF2.out hsz hb2
 have hne : w.heap.size + 1 ≠ w.heap.size := by omega
 have aAV := aA aAT hne 0 (.slice v1.a1 v1.n1 v1.c1)
 have aAW := aH aAU ⟨w.heap.size, 0, none⟩ (.slice v1.a1 v1.n1 v1.c1)
 have aAX := aA aAV hne 1 (.slice v1.hc.az 2 v1.hc.cz)
 have aAY := aH aAW ⟨w.heap.size, 1, none⟩ (.slice v1.hc.az 2 v1.hc.cz)
 have aAZ := aA aAX hne 2 (.slice v1.hc.am 2 v1.hc.cm)
 have aA0 := aH aAY ⟨w.heap.size, 2, none⟩ (.slice v1.hc.am 2 v1.hc.cm)
 have aA1 := aA aAZ hne 3 (.int .i64 (s.h.aF : Int))
 have aA2 := aH aA0 ⟨w.heap.size, 3, none⟩ (.int .i64 (s.h.aF : Int))
 have aA3 := aA aA1 hne 4 (.slice v1.hc.al v1.hc.lc.length v1.hc.cl)
 have aA4 := aH aA2 ⟨w.heap.size, 4, none⟩ (.slice v1.hc.al v1.hc.lc.length v1.hc.cl)
 have aA5 := aA aA3 hne 5 (.slice v1.hc.av s.h.live.length v1.hc.cv)
 have aA6 := aH aA4 ⟨w.heap.size, 5, none⟩ (.slice v1.hc.av s.h.live.length v1.hc.cv)
 have aA7 := aA aA5 hne 6 (.slice v1.a2 v1.ys.length v1.c2)
 have aA8 := aH aA6 ⟨w.heap.size, 6, none⟩ (.slice v1.a2 v1.ys.length v1.c2)
 have HT3 := gO aA7
 have HU3 := gO aA8
 have HB3 := gO (Below.setCell (Below.setCell (Below.setCell (Below.setCell (Below.setCell (Below.setCell (Below.setCell (Below.trans HB1.out (hb2.mono hw1)) (show w.heap.size ≤ (⟨w.heap.size, 0, none⟩ : Addr).block from Nat.le_refl _) (.slice v1.a1 v1.n1 v1.c1)) (show w.heap.size ≤ (⟨w.heap.size, 1, none⟩ : Addr).block from Nat.le_refl _) (.slice v1.hc.az 2 v1.hc.cz)) (show w.heap.size ≤ (⟨w.heap.size, 2, none⟩ : Addr).block from Nat.le_refl _) (.slice v1.hc.am 2 v1.hc.cm)) (show w.heap.size ≤ (⟨w.heap.size, 3, none⟩ : Addr).block from Nat.le_refl _) (.int .i64 (s.h.aF : Int))) (show w.heap.size ≤ (⟨w.heap.size, 4, none⟩ : Addr).block from Nat.le_refl _) (.slice v1.hc.al v1.hc.lc.length v1.hc.cl)) (show w.heap.size ≤ (⟨w.heap.size, 5, none⟩ : Addr).block from Nat.le_refl _) (.slice v1.hc.av s.h.live.length v1.hc.cv)) (show w.heap.size ≤ (⟨w.heap.size, 6, none⟩ : Addr).block from Nat.le_refl _) (.slice v1.a2 v1.ys.length v1.c2))
 have ht3 : w.heap.size + 1 < w2.heap.size := gI hsz hb2.size
 have hsz3 : (((((((w2.setCell ⟨w.heap.size, 0, none⟩ (.slice v1.a1 v1.n1 v1.c1)).setCell ⟨w.heap.size, 1, none⟩ (.slice v1.hc.az 2 v1.hc.cz)).setCell ⟨w.heap.size, 2, none⟩ (.slice v1.hc.am 2 v1.hc.cm)).setCell ⟨w.heap.size, 3, none⟩ (.int .i64 (s.h.aF : Int))).setCell ⟨w.heap.size, 4, none⟩ (.slice v1.hc.al v1.hc.lc.length v1.hc.cl)).setCell ⟨w.heap.size, 5, none⟩ (.slice v1.hc.av s.h.live.length v1.hc.cv)).setCell ⟨w.heap.size, 6, none⟩ (.slice v1.a2 v1.ys.length v1.c2)).heap.size = w2.heap.size := by simp
 rw [← hsz3] at ht3
 clear K12 F12 y0 y1 y2 y3 y4 y5 y6 f0 f1 f2 f3 f4 f5 f6 rV hfin hnew aAT aAV aAX aAZ aA1 aA3 aA5 aA7 aAU aAW aAY aA0 aA2 aA4 aA6 aA8 hne HA k0 k1 k2 k3 k4 k5 k6 HK1 HF1 HK2 HF2 hsz3
 generalize ((((((w2.setCell ⟨w.heap.size, 0, none⟩ (.slice v1.a1 v1.n1 v1.c1)).setCell ⟨w.heap.size, 1, none⟩ (.slice v1.hc.az 2 v1.hc.cz)).setCell ⟨w.heap.size, 2, none⟩ (.slice v1.hc.am 2 v1.hc.cm)).setCell ⟨w.heap.size, 3, none⟩ (.int .i64 (s.h.aF : Int))).setCell ⟨w.heap.size, 4, none⟩ (.slice v1.hc.al v1.hc.lc.length v1.hc.cl)).setCell ⟨w.heap.size, 5, none⟩ (.slice v1.hc.av s.h.live.length v1.hc.cv)).setCell ⟨w.heap.size, 6, none⟩ (.slice v1.a2 v1.ys.length v1.c2) = w3 at *
 have hvl : i < v1.ys.length := by
  have h := congrArg List.length HS3.out.r.cy
  simp only [List.length_map] at h
  omega
 have HO3 := gO (ho.below HB3.out)
 have hog : 1 < w.heap.size := ho.sz
 clear hb2 HB1 hsz hsz1 hw1
 go_wp2_with fail
 go_loopw [13, 36] (fun s13 s36 wr => ∃ (j : Nat) (s' : Sy) (l : List Int) (v' : Sc) (a' : Option Addr) (c' : Nat), j ≤ many ∧ s36 = .int .i64 (j : Int) ∧ s13 = .slice a' j c' ∧ Hid (s.bulk i cpu j = some (s', l)) ∧ l.length = j ∧ Hid (dM s') ∧ s'.h.aF = s.h.aF ∧ (∃ c, s'.cs[i]? = some c) ∧ Hid (SS wr w.heap.size (fun k => (k < w.heap.size ∨ k = w.heap.size + 1) ∨ (Value.slice a' j c').ownBlock = some k) s' v') ∧ Hid (wr.ownsRow w3.heap.size 3 1 (.slice a' j c') j (l.map vI)) ∧ Hid (∀ o, wr.cell? ⟨w.heap.size + 1, o, none⟩ = (#[.slice none 0 0, .slice none 0 0, .slice none 0 0, .int .i64 0, .slice none 0 0, .slice none 0 0, .slice none 0 0] : Array Value)[o]?) ∧ Hid (∀ o, wr.frozen? ⟨w.heap.size + 1, o, none⟩ = false) ∧ w3.heap.size ≤ wr.heap.size ∧ Hid (Below w.heap.size w wr)) (fun _ s36 _ => many - (intOf s36).toNat)
 case atStart =>
  exact ⟨0, s, [], v1, none, 0, Nat.zero_le _, rfl, rfl, rfl, rfl, HK, rfl, ⟨_, gJ hil⟩, HS3.out.sub (fun k hk => hk.resolve_right (by simp [Value.ownBlock])), World.ownsRow_nil _ _ _ _, HT3, HU3, Nat.le_refl _, HB3⟩
 case round =>
  obtain ⟨j, s', l, v', a', c', hj, rfl, rfl, IK, hlj, vY, aA9, hcj, kL, HRj, HTj, JQ, hwj, lY⟩ := hrel
  by_cases hlt : j < many
  ·have hji : (j : Int) < many := by omega
   obtain ⟨c, hc⟩ := hcj
   have hiv : i < v'.ys.length := by
    have h := congrArg List.length kL.out.r.cy
    simp only [List.length_map] at h
    have h2 := (List.getElem?_eq_some_iff.1 hc).1
    omega
   have RP : cpu < s'.h.aF := by omega
   have Vh := Vg v' s' w.heap.size i cpu (fun k => (k < w.heap.size ∨ k = w.heap.size + 1) ∨ (Value.slice a' j c').ownBlock = some k) wr kL.out vY.out hiv RP (ho.below lY.out) (.inl (.inl hog)) (vY.out.chosen hc RP)
   have hle1 : w.heap.size ≤ w.heap.size + 1 := Nat.le_succ _
   have htj : w.heap.size + 1 < wr.heap.size := gI ht3 hwj
   cases hone : s'.one i cpu with
   | none =>
    have TW : Hid (s.bulk i cpu many = none) := Dc IK.out hone many hlt
    have HC : Hid (Calls Tryz.prog 72 #[.pointer (some ⟨w.heap.size, 0, none⟩), .int .i64 i, .int .i64 cpu] wr fun ev w' => ev = .returned (.tuple #[.int .i64 0, .int .i64 6]) ∧ Below wr.heap.size wr w') := by
     refine Vh.mono ?_
     rintro ev w' (⟨_, h, hb⟩ | ⟨s'', b, v'', h, _⟩)
     ·exact ⟨h, hb⟩
     ·rw [hone] at h
      cases h
    clear Vh hone kL HRj vY IK
    go_wp2_with (go_at_call 72; refine HC.out.mono ?_; rintro ev w5 ⟨rfl, hb5⟩; have KT := aB HTj.out htj hb5; have FT := aJ JQ.out htj hb5; obtain ⟨y0, y1, y2, y3, y4, y5, y6⟩ := gA7 KT; obtain ⟨f0, f1, f2, f3, f4, f5, f6⟩ := gF7 FT; skip)
    have KX := (aG (aG (aG (aG (aG (aG (aG KT 0 (.slice none 0 0)) 1 (.slice none 0 0)) 2 (.slice none 0 0)) 3 (.int .i64 0)) 4 (.slice none 0 0)) 5 (.slice none 0 0)) 6 (.slice none 0 0))
    simp only [gE, gG, gH] at KX
    have kK := gO (Below.setCell (Below.setCell (Below.setCell (Below.setCell (Below.setCell (Below.setCell (Below.setCell (Below.step lY.out hb5) (show w.heap.size ≤ (⟨w.heap.size + 1, 0, none⟩ : Addr).block from hle1) (.slice none 0 0)) (show w.heap.size ≤ (⟨w.heap.size + 1, 1, none⟩ : Addr).block from hle1) (.slice none 0 0)) (show w.heap.size ≤ (⟨w.heap.size + 1, 2, none⟩ : Addr).block from hle1) (.slice none 0 0)) (show w.heap.size ≤ (⟨w.heap.size + 1, 3, none⟩ : Addr).block from hle1) (.int .i64 0)) (show w.heap.size ≤ (⟨w.heap.size + 1, 4, none⟩ : Addr).block from hle1) (.slice none 0 0)) (show w.heap.size ≤ (⟨w.heap.size + 1, 5, none⟩ : Addr).block from hle1) (.slice none 0 0)) (show w.heap.size ≤ (⟨w.heap.size + 1, 6, none⟩ : Addr).block from hle1) (.slice none 0 0))
    clear y0 y1 y2 y3 y4 y5 y6 f0 f1 f2 f3 f4 f5 f6 KT FT
    generalize ((((((w5.setCell ⟨w.heap.size + 1, 0, none⟩ (.slice none 0 0)).setCell ⟨w.heap.size + 1, 1, none⟩ (.slice none 0 0)).setCell ⟨w.heap.size + 1, 2, none⟩ (.slice none 0 0)).setCell ⟨w.heap.size + 1, 3, none⟩ (.int .i64 0)).setCell ⟨w.heap.size + 1, 4, none⟩ (.slice none 0 0)).setCell ⟨w.heap.size + 1, 5, none⟩ (.slice none 0 0)).setCell ⟨w.heap.size + 1, 6, none⟩ (.slice none 0 0) = wx at *
    refine bodyPost_ret (v := .tuple #[.agg #[.slice none 0 0, .slice none 0 0, .slice none 0 0, .int .i64 0, .slice none 0 0, .slice none 0 0, .slice none 0 0], .slice none 0 0, .int .i64 6]) (by simp [results, Tryz.results36, go_sem, KX]) rfl (.inl ⟨TW.out, rfl, kK.out⟩)
   | some r =>
    obtain ⟨t, b⟩ := r
    have HC : Hid (Calls Tryz.prog 72 #[.pointer (some ⟨w.heap.size, 0, none⟩), .int .i64 i, .int .i64 cpu] wr fun ev w' => ∃ v'', ev = .returned (.tuple #[.int .i64 b, .int .i64 0]) ∧ SS w' w.heap.size (fun k => (k < w.heap.size ∨ k = w.heap.size + 1) ∨ (Value.slice a' j c').ownBlock = some k) t v'' ∧ Safe (fun k => (k < w.heap.size ∨ k = w.heap.size + 1) ∨ (Value.slice a' j c').ownBlock = some k) wr w') := by
     refine Vh.mono ?_
     rintro ev w' (⟨h, _⟩ | ⟨s'', b', v'', h, h1, h2, h3, _⟩)
     ·rw [hone] at h
      cases h
     ·rw [hone] at h
      obtain ⟨rfl, rfl⟩ : t = s'' ∧ b = b' := by simpa using h
      exact ⟨v'', h1, h2, h3⟩
    obtain ⟨hkt, hct, hlt', aD6⟩ := vY.out.one hc RP hone
    have HKT := gO hkt
    have HBK1 := gO (Df IK.out hone)
    have Vj : t.h.aF = s.h.aF := hct.trans aA9
    clear Vh hone kL vY IK hkt hct
    go_upto_region 12 with (go_at_call 72; refine HC.out.mono ?_; rintro ev w5 ⟨v'', rfl, hs5, hf5⟩)
    have HR5 : Hid (w5.ownsRow w3.heap.size 3 1 (.slice a' j c') j (l.map vI)) := uY HRj.out fun k hk hlt => hf5.block k hlt (.inr hk)
    have HT5 := gO (hf5.box HTj.out htj (.inl (.inr rfl)))
    have HU5 := gO (hf5.Qg JQ.out htj (.inl (.inr rfl)))
    have HB5 : Hid (Below w.heap.size w w5) := Safe.after lY.out hf5 (fun k hk => .inl (.inl hk)) lY.out.size
    have HS5 := gO hs5
    have hw5 : w3.heap.size ≤ w5.heap.size := gQ hwj hf5.size
    clear hs5 hf5 HRj HTj JQ lY HC
    have ba := aC w5 (.cells #[.int .i64 b] 3)
    have HS6 := gO (HS5.out.below ba)
    have HR6 : Hid ((w5.alloc (.cells #[.int .i64 b] 3)).ownsRow w3.heap.size 3 1 (.slice a' j c') j (l.map vI)) := own_below HR5.out ba (Nat.le_refl _)
    have ht5 : w.heap.size + 1 < w5.heap.size := gI ht3 hw5
    have HT6 := gO (aB HT5.out ht5 ba)
    have HU6 := gO (aJ HU5.out ht5 ba)
    have HB6 := gO (Below.step HB5.out ba)
    have hw6 : w3.heap.size ≤ (w5.alloc (.cells #[.int .i64 b] 3)).heap.size := gQ hw5 ba.size
    have hnw := (World.news_of_block (heap_alloc_new w5 (.cells #[.int .i64 b] 3)))
    have Ot := gO hnw
    obtain ⟨ti, hti, htz, hts, htb⟩ := info_parts kY
    have hjm : j ≤ 256 := by omega
    have ht6 : w.heap.size + 1 < (w5.alloc (.cells #[.int .i64 b] 3)).heap.size := gI ht3 hw6
    clear ba hnw HS5 HR5 HT5 HU5 HB5
    go_wp2_with (at_builtin; refine wpList_append_lies _ rfl _ _ 39 rfl w3.heap.size 3 ti (.int .i64 0) 1 8 Tryz.underlying39 hti htz hts htb rfl (by decide) (.slice a' j c') j (l.map vI) rfl HR6.out ⟨w5.heap.size, 0, none⟩ 1 1 [.int .i64 b] rfl rfl Ot.out (by simp [Value.oneCell']) (by decide) (by unfold maxLen; omega) (by omega) hw6 _ rfl ?_; intro g7 cap7 w7 ho7 hg7 hl7 Oq)
    have Yk : some (w.heap.size + 1) ≠ (Value.slice a' j c').ownBlock := fun e => by
     have := (HR6.out.lt _ e.symm).1
     omega
    have HS7 := gO (HS6.out.out (Z := fun k => (k < w.heap.size ∨ k = w.heap.size + 1) ∨ (Value.slice (some ⟨g7, 0, none⟩) (j + 1) cap7).ownBlock = some k) hg7 (fun k e => .inr e) (fun k hk => by
     rcases hk with h | h
     ·exact .inl (.inl h)
     ·obtain rfl : g7 = k := by simpa [Value.ownBlock] using h
      rcases hl7 with h1 | h1
      ·exact .inl (.inr h1)
      ·exact .inr ⟨Nat.le_of_eq h1.symm, Oq⟩))
    have HR7 : Hid (w7.ownsRow w3.heap.size 3 1 (.slice (some ⟨g7, 0, none⟩) (j + 1) cap7) (j + 1) ((l ++ [b]).map vI)) := by
     unfold Hid
     rw [List.map_append]
     exact ho7
    have HT7 := gO (bH HT6.out ht6 hg7 Yk)
    have HU7 := gO (bI HU6.out ht6 hg7 Yk)
    have HB7 : Hid (Below w.heap.size w w7) := Below.grown HB6.out hg7 HB6.out.size fun k e => by
     have := (HR6.out.lt k e).1
     omega
    have hw7 : w3.heap.size ≤ w7.heap.size := gQ hw6 hg7.size
    have aD7 : (l ++ [b]).length = j + 1 := by simp [hlj]
    clear ho7 hg7 hl7 Oq HS6 HR6 HT6 HU6 HB6 Ot Yk
    go_wp2
    go_roundw
    case rel => exact ⟨j + 1, t, l ++ [b], v'', some ⟨g7, 0, none⟩, cap7, by omega, by go_num, by first | rfl | trivial, HBK1, aD7, HKT, Vj, aD6, HS7, HR7, HT7, HU7, hw7, HB7⟩
    case measure => simp [intOf]; omega
  ·obtain rfl : j = many := by omega
   have hle1 : w.heap.size ≤ w.heap.size + 1 := Nat.le_succ _
   have htj : w.heap.size + 1 < wr.heap.size := gI ht3 hwj
   have KT := HTj.out
   have hnr : (Value.slice a' j c').ownBlock ≠ some (w.heap.size + 1) := fun e => by
    have := (HRj.out.lt _ e).1
    omega
   have x0 := kL.out.k 0
   have x1 := kL.out.k 1
   have x2 := kL.out.k 2
   have x3 := kL.out.k 3
   have x4 := kL.out.k 4
   have x5 := kL.out.k 5
   have x6 := kL.out.k 6
   unfold Sc.vals at x0 x1 x2 x3 x4 x5 x6
   have y0 := KT 0
   have y1 := KT 1
   have y2 := KT 2
   have y3 := KT 3
   have y4 := KT 4
   have y5 := KT 5
   have y6 := KT 6
   obtain ⟨f0, f1, f2, f3, f4, f5, f6⟩ := gF7 JQ.out
   simp only [gB, gC, gD] at x0 x1 x2 x3 x4 x5 x6 y0 y1 y2 y3 y4 y5 y6
   have KX := (aG (aG (aG (aG (aG (aG (aG KT 0 (.slice v'.a1 v'.n1 v'.c1)) 1 (.slice v'.hc.az 2 v'.hc.cz)) 2 (.slice v'.hc.am 2 v'.hc.cm)) 3 (.int .i64 (s'.h.aF : Int))) 4 (.slice v'.hc.al v'.hc.lc.length v'.hc.cl)) 5 (.slice v'.hc.av s'.h.live.length v'.hc.cv)) 6 (.slice v'.a2 v'.ys.length v'.c2))
   simp only [gE, gG, gH] at KX
   have hX8 : (fun k => (k < w.heap.size ∨ k = w.heap.size + 1) ∨ (Value.slice a' j c').ownBlock = some k) (w.heap.size + 1) := .inl (.inr rfl)
   have A0 := kL.out
   have B0 := HRj.out
   have A1 := A0.dQ hX8 0 (.slice v'.a1 v'.n1 v'.c1)
   have B1 := bJ (i := 0) B0 hnr (.slice v'.a1 v'.n1 v'.c1)
   have A2 := A1.dQ hX8 1 (.slice v'.hc.az 2 v'.hc.cz)
   have B2 := bJ (i := 1) B1 hnr (.slice v'.hc.az 2 v'.hc.cz)
   have A3 := A2.dQ hX8 2 (.slice v'.hc.am 2 v'.hc.cm)
   have B3 := bJ (i := 2) B2 hnr (.slice v'.hc.am 2 v'.hc.cm)
   have A4 := A3.dQ hX8 3 (.int .i64 (s'.h.aF : Int))
   have B4 := bJ (i := 3) B3 hnr (.int .i64 (s'.h.aF : Int))
   have A5 := A4.dQ hX8 4 (.slice v'.hc.al v'.hc.lc.length v'.hc.cl)
   have B5 := bJ (i := 4) B4 hnr (.slice v'.hc.al v'.hc.lc.length v'.hc.cl)
   have A6 := A5.dQ hX8 5 (.slice v'.hc.av s'.h.live.length v'.hc.cv)
   have B6 := bJ (i := 5) B5 hnr (.slice v'.hc.av s'.h.live.length v'.hc.cv)
   have A7 := A6.dQ hX8 6 (.slice v'.a2 v'.ys.length v'.c2)
   have B7 := bJ (i := 6) B6 hnr (.slice v'.a2 v'.ys.length v'.c2)
   have pI := gO (A7.sub (Y := fun k => k < w.heap.size) (fun k hk => .inl (.inl hk))).r
   have HRX := gO (own_base B7 HB3.out.size)
   clear A0 A1 A2 A3 A4 A5 A6 A7 B0 B1 B2 B3 B4 B5 B6 B7 hX8
   have kK := gO (Below.setCell (Below.setCell (Below.setCell (Below.setCell (Below.setCell (Below.setCell (Below.setCell lY.out (show w.heap.size ≤ (⟨w.heap.size + 1, 0, none⟩ : Addr).block from hle1) (.slice v'.a1 v'.n1 v'.c1)) (show w.heap.size ≤ (⟨w.heap.size + 1, 1, none⟩ : Addr).block from hle1) (.slice v'.hc.az 2 v'.hc.cz)) (show w.heap.size ≤ (⟨w.heap.size + 1, 2, none⟩ : Addr).block from hle1) (.slice v'.hc.am 2 v'.hc.cm)) (show w.heap.size ≤ (⟨w.heap.size + 1, 3, none⟩ : Addr).block from hle1) (.int .i64 (s'.h.aF : Int))) (show w.heap.size ≤ (⟨w.heap.size + 1, 4, none⟩ : Addr).block from hle1) (.slice v'.hc.al v'.hc.lc.length v'.hc.cl)) (show w.heap.size ≤ (⟨w.heap.size + 1, 5, none⟩ : Addr).block from hle1) (.slice v'.hc.av s'.h.live.length v'.hc.cv)) (show w.heap.size ≤ (⟨w.heap.size + 1, 6, none⟩ : Addr).block from hle1) (.slice v'.a2 v'.ys.length v'.c2))
   clear KT HTj JQ HRj hcj
   have HLJ := gO hlj
   clear hlj aA9 hlt hj aD4 aD5
   go_wp2_with fail
   generalize ((((((wr.setCell ⟨w.heap.size + 1, 0, none⟩ (.slice v'.a1 v'.n1 v'.c1)).setCell ⟨w.heap.size + 1, 1, none⟩ (.slice v'.hc.az 2 v'.hc.cz)).setCell ⟨w.heap.size + 1, 2, none⟩ (.slice v'.hc.am 2 v'.hc.cm)).setCell ⟨w.heap.size + 1, 3, none⟩ (.int .i64 (s'.h.aF : Int))).setCell ⟨w.heap.size + 1, 4, none⟩ (.slice v'.hc.al v'.hc.lc.length v'.hc.cl)).setCell ⟨w.heap.size + 1, 5, none⟩ (.slice v'.hc.av s'.h.live.length v'.hc.cv)).setCell ⟨w.heap.size + 1, 6, none⟩ (.slice v'.a2 v'.ys.length v'.c2) = wx at *
   refine bodyPost_ret (v := .tuple #[.agg #[.slice v'.a1 v'.n1 v'.c1, .slice v'.hc.az 2 v'.hc.cz, .slice v'.hc.am 2 v'.hc.cm, .int .i64 (s'.h.aF : Int), .slice v'.hc.al v'.hc.lc.length v'.hc.cl, .slice v'.hc.av s'.h.live.length v'.hc.cv, .slice v'.a2 v'.ys.length v'.c2], .slice a' j c', .int .i64 0]) (by simp [results, Tryz.results36, go_sem, KX]) rfl (.inr ⟨s', l, v', a', c', IK.out, rfl, pI.out, HLJ.out, HRX.out, kK.out⟩)
end
end Go.Proofs.YtcmpmobhongkiaaGreatDoor
