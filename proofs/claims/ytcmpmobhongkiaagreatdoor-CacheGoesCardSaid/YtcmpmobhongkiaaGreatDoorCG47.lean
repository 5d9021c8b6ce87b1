/- texts of this claim, joined. -/
import Derived.Test.YtcmpmobhongkiaaGreatDoorCG0
import Derived.Test.YtcmpmobhongkiaaGreatDoorCG17
import Derived.Test.YtcmpmobhongkiaaGreatDoorCG36
import Derived.Test.YtcmpmobhongkiaaGreatDoorCG41
import Derived.Test.YtcmpmobhongkiaaGreatDoorCG43
import Derived.StillTailTactics
set_option linter.unusedVariables false
set_option linter.unusedSimpArgs false
namespace Go.Proofs.YtcmpmobhongkiaaGreatDoor
section
open Go.RowKit

set_option maxHeartbeats 8000000 in
set_option maxRecDepth 100000 in
theorem KF (v : Sc) (s : Sy) (i k : Nat) (a : Int) (l : List Int) (w : World) (hs : qF w v s) (hk : dM s) (hf : ∀ c ∈ s.cs, c.ns.length ≤ 1000) (hi : i < s.cs.length) (hkk : k < s.cs[i].sl.length) (hob : iH s.cs[i] s.cs[i].sl[k].p a = true) (hfl : follow s.w s.cs[i].sl[k].h s.cs[i].r = some l) (hal : a ∉ l) :
  Calls Tryz.prog 43 #[.agg #[.slice v.a1 v.n1 v.c1, .slice v.hc.az 2 v.hc.cz, .slice v.hc.am 2 v.hc.cm, .int .i64 (s.h.aF : Int), .slice v.hc.al v.hc.lc.length v.hc.cl, .slice v.hc.av s.h.live.length v.hc.cv, .slice v.a2 v.ys.length v.c2], .int .i64 a] w fun ev w' => ev = .returned (.tuple #[.int .i64 i, .int .i64 k, .int .i64 0]) ∧ Below w.heap.size w w' := by
 obtain ⟨K0, F0, hsz, hbw⟩ := boxes1 w #[.slice v.a1 v.n1 v.c1, .slice v.hc.az 2 v.hc.cz, .slice v.hc.am 2 v.hc.cm, .int .i64 (s.h.aF : Int), .slice v.hc.al v.hc.lc.length v.hc.cl, .slice v.hc.av s.h.live.length v.hc.cv, .slice v.a2 v.ys.length v.c2] 47
 have HS := gO (hs.below hbw)
 have HB := gO hbw
 have HK := gO hk
 have HK0 := gO K0
 have rU := gO (qX v s _ (hs.below hbw) hk hf)
 have hyl : v.ys.length ≤ 20 := by have := congrArg List.length hs.cy; rw [List.length_map] at this; rw [this]; exact hk.cl
 have aBZ : v.ys.length = s.cs.length := by have := congrArg List.length hs.cy; simpa using this
 have hab : 0 ≤ a ∧ a < 4096 := by
  have h1 := jW (hk.ck _ (gL hi)).room hob
  obtain ⟨b, hb, hb1, hb2⟩ := ((hk.ck _ (gL hi)).sk _ (gL hkk)).live
  obtain ⟨⟨_, _, h3, h4⟩, _⟩ := hk.hk.lv b hb
  have h5 : s.cs[i].o ≤ 2 := by rw [(hk.ck _ (gL hi)).o]; exact kH _
  rw [hb1] at h3 h4
  rw [hb2] at h4
  generalize s.cs[i].o = o at *
  obtain rfl | rfl | rfl : o = 0 ∨ o = 1 ∨ o = 2 := by omega
  ·omega
  ·omega
  ·omega
 have aE1 := gO aBZ
 have HOB := gO hob
 have HFL := gO hfl
 have IJ := gO hal
 obtain ⟨k0, k1, k2, k3, k4, k5, k6⟩ := gA7 K0
 clear hs hk hf hbw K0 F0 hob hfl hal aBZ
 go_enter Tryz.func43, Tryz.ntmps43
 go_upto_region 1 with fail
 generalize w.alloc (.cells #[.slice v.a1 v.n1 v.c1, .slice v.hc.az 2 v.hc.cz, .slice v.hc.am 2 v.hc.cm, .int .i64 (s.h.aF : Int), .slice v.hc.al v.hc.lc.length v.hc.cl, .slice v.hc.av s.h.live.length v.hc.cv, .slice v.a2 v.ys.length v.c2] 47) = w1 at *
 go_upto_region 4 with (go_at_call 38; refine rU.out.mono ?_; rintro ev w2 ⟨rfl, hb2⟩)
 have HB2 := gO hb2
 have k6' := (hb2.cell (p := ⟨w.heap.size, 6, none⟩) hsz).trans k6
 clear k0 k1 k2 k3 k4 k5 k6 rU hb2
 go_wp2_with fail
 clear k6'
 go_loopw [22] (fun s22 wr => ∃ (i' : Nat), i' ≤ i ∧ s22 = .int .i64 (i' : Int) ∧ Hid (Below w1.heap.size w1 wr)) (fun s22 _ => v.ys.length - (intOf s22).toNat)
 case atStart => exact ⟨0, Nat.zero_le _, rfl, HB2⟩
 case round =>
  obtain ⟨i', hi', rfl, lK⟩ := hrel
  have hlt : i' < v.ys.length := by rw [aE1.out]; omega
  have hic : i' < s.cs.length := by omega
  have Jr : (i' : Int) < v.ys.length := by omega
  have hel : v.ys[i'].c = s.cs[i'] := by
   have h1 := congrArg (·[i']?) HS.out.cy
   simp [hlt, hic] at h1
   exact h1
  have jF := HS.out.below lK.out
  obtain ⟨bb, off, hba, hbb, hbc⟩ := aN cO (by decide) jF.rc hlt
  obtain ⟨e0, e1, e2, e3, e4, e5⟩ := nC hbc
  have hcy := jF.ca _ (gL hlt)
  have hck := HK.out.ck _ (gL hic)
  rw [← hel] at hck
  have WV : ∀ (c : Ca), c = s.cs[i'] → ∀ k' x, c.sl[k']? = some x → ¬ (i' = i ∧ k' = k) → iH c x.p a = false := fun c hc k' x hx hne => by
   subst hc
   obtain ⟨hk', e⟩ := List.getElem?_eq_some_iff.1 hx
   cases h : iH s.cs[i'] x.p a with
   | false => rfl
   | true =>
    rw [← e] at h
    exact absurd (HK.out.only hic hi hk' hkk h HOB.out) hne
  have WW : ∀ (c : Ca), c = s.cs[i'] → i' = i → ∃ x, c.sl[k]? = some x ∧ iH c x.p a = true ∧ follow s.w x.h c.r = some l := fun c hc he => by
   subst hc
   subst he
   exact ⟨_, gJ hkk, HOB.out, HFL.out⟩
  have KH := WV _ hel
  have KI := WW _ hel
  obtain ⟨y, hy⟩ : ∃ y, v.ys[i'] = y := ⟨_, rfl⟩
  rw [hy] at KH KI
  rw [hy] at e0 e1 e2 e3 e4 e5 hcy hck
  have HON := gO KH
  have Zg := gO KI
  have HY := gO hy
  have hsl := hck.kV HK.out.hk
  have hl2 := hcy.l2
  have hn2 : y.n2 ≤ 256 := by omega
  have HL2 := gO hl2
  have Bc := gO hcy
  have BJ := gO hck
  have HA := gO hba
  rw [hba]
  clear hbc hba hel jF hbb WV WW KH KI hy hl2 hsl hcy hck
  go_upto_region 7 with fail
  have hb6 := aC wr (.cells #[.slice y.a1 y.n1 y.c1, .int .i64 (y.c.z : Int), .int .i64 (y.c.r : Int), .int .i64 (y.c.o : Int), .slice y.a2 y.n2 y.c2, .slice y.a3 y.n3 y.c3] 94)
  have K6 := bC wr #[.slice y.a1 y.n1 y.c1, .int .i64 (y.c.z : Int), .int .i64 (y.c.r : Int), .int .i64 (y.c.o : Int), .slice y.a2 y.n2 y.c2, .slice y.a3 y.n3 y.c3] 94
  have hs6 : wr.heap.size < (wr.alloc (.cells #[.slice y.a1 y.n1 y.c1, .int .i64 (y.c.z : Int), .int .i64 (y.c.r : Int), .int .i64 (y.c.o : Int), .slice y.a2 y.n2 y.c2, .slice y.a3 y.n3 y.c3] 94)).heap.size := by simp
  have HB6 := gO (Below.step lK.out hb6)
  have HC6 := gO (Bc.out.below hb6)
  have HK6 := gO K6
  have k4 := K6 4
  simp only [gB, gC, gD] at k4
  clear hb6 K6 e0 e1 e2 e3 e4 e5 Bc lK
  obtain ⟨we, rfl⟩ : ∃ we, we = wr := ⟨_, rfl⟩
  generalize we.alloc (.cells #[.slice y.a1 y.n1 y.c1, .int .i64 (y.c.z : Int), .int .i64 (y.c.r : Int), .int .i64 (y.c.o : Int), .slice y.a2 y.n2 y.c2, .slice y.a3 y.n3 y.c3] 94) = w6 at *
  obtain ⟨BC, hBC⟩ : ∃ B, we.heap.size = B := ⟨_, rfl⟩
  rw [hBC] at HK6 hs6 k4 ⊢
  clear hBC
  go_wp2_with fail
  clear k4
  go_loopw [30] (fun s30 wr => ∃ (k' : Nat), k' ≤ y.n2 ∧ (i' = i → k' ≤ k) ∧ s30 = .int .i64 (k' : Int) ∧ Hid (Below w1.heap.size w1 wr) ∧ BC < wr.heap.size ∧ Hid (∀ o, wr.cell? ⟨BC, o, none⟩ = (#[.slice y.a1 y.n1 y.c1, .int .i64 (y.c.z : Int), .int .i64 (y.c.r : Int), .int .i64 (y.c.o : Int), .slice y.a2 y.n2 y.c2, .slice y.a3 y.n3 y.c3] : Array Value)[o]?)) (fun s30 _ => y.n2 - (intOf s30).toNat)
  case atStart => exact ⟨0, Nat.zero_le _, fun _ => Nat.zero_le _, rfl, HB6, hs6, HK6⟩
  case round =>
   obtain ⟨k', hkn, hkle, rfl, HBk, hsk, HKk⟩ := hrel
   clear HB6 hs6 HK6 HC6
   have hsr := HS.out.below HBk.out
   have TA := hsr.ca _ (gL hlt)
   rw [HY.out] at TA
   by_cases hkl : k' < y.n2
   ·have hki : (k' : Int) < y.n2 := by omega
    have hks : k' < y.c.sl.length := by rw [HL2.out]; exact hkl
    obtain ⟨sb, so, hsb, GI, sZ⟩ := aN aK (by decide) TA.r2 hks
    obtain ⟨n0, n1, n2⟩ := fB sZ
    have hxp := (BJ.out.sk _ (gL hks)).zW HK.out.hk
    have hxg : y.c.sl[k']? = some y.c.sl[k'] := gJ hks
    have HXN := gO (HON.out k' _ hxg)
    have aIL := gO TA
    have HXG := gO hxg
    generalize y.c.sl[k'] = x at *
    rw [hsb]
    have b9 := aC wr (.cells #[.int .i64 (x.p : Int), .int .i64 (x.n : Int), .int .i64 x.h] 137)
    have KX := bC wr #[.int .i64 (x.p : Int), .int .i64 (x.n : Int), .int .i64 x.h] 137
    have hs9 : wr.heap.size < (wr.alloc (.cells #[.int .i64 (x.p : Int), .int .i64 (x.n : Int), .int .i64 x.h] 137)).heap.size := by simp
    have HB9 := gO (Below.step HBk.out b9)
    have KC9 := aB HKk.out hsk b9
    have YD := gI hsk b9.size
    have m0 := KX 0
    have m1 := KX 1
    have m2 := KX 2
    have c0 := KC9 0
    have c1 := KC9 1
    have c2 := KC9 2
    have c3 := KC9 3
    have c4 := KC9 4
    have c5 := KC9 5
    simp only [gB, gC, gD] at m0 m1 m2 c0 c1 c2 c3 c4 c5
    rw [hsb] at c4
    have HKC9 := gO KC9
    have Zj := gO KX
    have YE := gO (fun W => yV y.c y.a1 y.a2 y.a3 y.n1 y.c1 y.n2 y.c2 y.n3 y.c3 x.p a W BJ.out.z.1 (gQ BJ.out.rz (by decide)) (by omega) (by omega) (by omega))
    rw [hsb] at YE
    have HSB := gO hsb
    clear sZ hsr TA hks hxg KC9 KX hsb
    go_upto_region 10 with fail
    clear n0 n1 n2
    generalize (wr.alloc (.cells #[.int .i64 (x.p : Int), .int .i64 (x.n : Int), .int .i64 x.h] 137)) = w9 at *
    generalize wr.heap.size = BX at *
    by_cases he : i' = i ∧ k' = k
    ·obtain ⟨he1, he2⟩ := he
     obtain ⟨x', hx', TB, YF⟩ := Zg.out he1
     have hxx : x' = x := by
      have h9 := HXG.out
      rw [he2, hx'] at h9
      exact gP h9
     subst hxx
     rw [TB] at YE
     obtain ⟨l2, YG, aB0, YH⟩ := (BJ.out.sk x' (gM hx')).chain
     rw [YF] at YG
     obtain rfl := gP YG
     have hlb : ∀ b ∈ l, 0 ≤ b ∧ b ≤ 1000000 := fun b hb => by
      have h9 := jW BJ.out.room (YH b hb)
      have h8 : y.c.o ≤ 2 := by rw [BJ.out.o]; exact kH _
      have h7 : 2 ^ y.c.o ≤ 4 := by
       generalize y.c.o = o at *
       obtain rfl | rfl | rfl : o = 0 ∨ o = 1 ∨ o = 2 := by omega
       all_goals decide
      generalize 2 ^ y.c.o = q at *
      omega
     have aE4 := (BJ.out.sk x' (gM hx')).Gv
     have Ry := BJ.out.r64
     have hxn : x'.n ≤ 1000000 := by omega
     have hn1 : v.n1 ≤ 4096 := by rw [← HS.out.lw, HK.out.wl]; exact Nat.le_refl _
     have hlen : l.length ≤ 1000000 := by omega
     have Rz : Hid (∀ W, Below w9.heap.size w9 W → Calls Tryz.prog 91 #[.agg #[.slice v.a1 v.n1 v.c1, .slice v.hc.az 2 v.hc.cz, .slice v.hc.am 2 v.hc.cm, .int .i64 s.h.aF, .slice v.hc.al v.hc.lc.length v.hc.cl, .slice v.hc.av s.h.live.length v.hc.cv, .slice (some ⟨bb, off, none⟩) v.ys.length v.c2], .agg #[.slice y.a1 y.n1 y.c1, .int .i64 y.c.z, .int .i64 y.c.r, .int .i64 y.c.o, .slice (some ⟨sb, so, none⟩) y.n2 y.c2, .slice y.a3 y.n3 y.c3], .agg #[.int .i64 x'.p, .int .i64 x'.n, .int .i64 x'.h]] W fun ev w' => ∃ (a' : Option Addr) (c' : Nat), ev = .returned (.tuple #[.slice a' l.length c', .bool true]) ∧ Row w' a' (l.map vI) ∧ Below W.heap.size W w') := fun W hW => by
      have h9 := zJ v.a1 v.hc.az v.hc.am v.hc.al v.hc.av (some ⟨bb, off, none⟩) v.n1 v.c1 v.hc.cz v.hc.cm v.hc.lc.length v.hc.cl s.h.live.length v.hc.cv v.ys.length v.c2 s.h.aF s.w y x' l W HS.out.lw hn1 ((HS.out.below (HB9.out.trans (hW.mono HB9.out.size))).rw) BJ.out.z.1 (gQ BJ.out.rz (by decide)) (by omega) YF aB0 YH hlb hxn
      rw [HSB.out] at h9
      exact h9
     have hnc : rY l a = false := by
      unfold rY
      rw [← Bool.not_eq_true, List.contains_iff_mem]
      exact IJ.out
     have HNC := gO hnc
     have k0' := (HB9.out.cell (p := ⟨w.heap.size, 0, none⟩) hsz)
     have hcells : Hid (∀ W, Below w9.heap.size w9 W → ∀ o, W.cell? ⟨w.heap.size, o, none⟩ = (#[.slice v.a1 v.n1 v.c1, .slice v.hc.az 2 v.hc.cz, .slice v.hc.am 2 v.hc.cm, .int .i64 (s.h.aF : Int), .slice v.hc.al v.hc.lc.length v.hc.cl, .slice v.hc.av s.h.live.length v.hc.cv, .slice v.a2 v.ys.length v.c2] : Array Value)[o]?) := fun W hW => aB HK0.out hsz (HB9.out.trans (hW.mono HB9.out.size))
     have RX := gO hlen
     clear k0' hnc hlb aB0 YH aE4 Ry YF hx' TB HXN HXG Zg HON hlen
     go_upto_region 11 with (go_at_call 90; refine (YE.out _).mono ?_; rintro ev w10 ⟨rfl, mQ⟩)
     have K10 := hcells.out w10 mQ
     have KC10 := aB HKC9.out YD mQ
     have KX10 := aB Zj.out hs9 mQ
     clear m0 m1 m2 c0 c1 c2 c3 c4 c5 YG
     have p0 := K10 0
     have p1 := K10 1
     have p2 := K10 2
     have p3 := K10 3
     have p4 := K10 4
     have p5 := K10 5
     have p6 := K10 6
     have c0 := KC10 0
     have c1 := KC10 1
     have c2 := KC10 2
     have c3 := KC10 3
     have c4 := KC10 4
     have c5 := KC10 5
     have m0 := KX10 0
     have m1 := KX10 1
     have m2 := KX10 2
     simp only [gB, gC, gD] at p0 p1 p2 p3 p4 p5 p6 c0 c1 c2 c3 c4 c5 m0 m1 m2
     rw [HA.out] at p6
     rw [HSB.out] at c4
     have HC11 := gO (Rz.out w10 mQ)
     have HB10 := gO (Below.step HB9.out mQ)
     have hi0 : (i' : Int) = i := by omega
     have hk0 : (k' : Int) = k := by omega
     have HI0 := gO hi0
     have aIN := gO hk0
     clear K10 KC10 KX10 mQ HKC9 Zj HB9 YE Rz hcells hi0 hk0 he1 he2
     go_upto_region 12 with (go_at_call 91; refine HC11.out.mono ?_; rintro ev w11 ⟨a', c', rfl, hrow, aE5⟩)
     have JC := gO (jC a' c' l a w11 (by have := RX.out; omega) hrow)
     rw [HNC.out] at JC
     clear p0 p1 p2 p3 p4 p5 p6 c0 c1 c2 c3 c4 c5 m0 m1 m2 hrow
     go_wp2_with (go_at_call 35; refine JC.out.mono ?_; rintro ev w12 ⟨rfl, rfl⟩)
     exact bodyPost_ret (v := .tuple #[.int .i64 (i : Int), .int .i64 (k : Int), .int .i64 0]) (by simp [results, Tryz.results43, go_sem]) rfl ⟨rfl, Below.step HB.out (Below.step HB10.out aE5)⟩
    ·have TB := HXN.out he
     rw [TB] at YE
     clear TB
     go_upto_region 15 with (go_at_call 90; refine (YE.out _).mono ?_; rintro ev w10 ⟨rfl, mQ⟩)
     have HB10 := gO (Below.step HB9.out mQ)
     have HK10 := gO (aB HKC9.out YD mQ)
     have aB1 := gI YD mQ.size
     have hke : i' = i → k' + 1 ≤ k := fun h9 => by
      have := hkle h9
      have : k' ≠ k := fun h8 => he ⟨h9, h8⟩
      omega
     have HKE := gO hke
     clear m0 m1 m2 c0 c1 c2 c3 c4 c5 mQ HKC9 Zj HB9 YE hke hkle he
     go_wp2
     go_roundw
     case rel => exact ⟨k' + 1, by omega, HKE.out, by go_num, HB10, aB1, (by rw [HSB.out] at HK10; exact HK10)⟩
     case measure => simp [intOf]; omega
   ·obtain rfl : k' = y.n2 := by omega
    have hne : i' ≠ i := fun h9 => by
     obtain ⟨x, hx, _⟩ := Zg.out h9
     have h8 := (List.getElem?_eq_some_iff.1 hx).1
     have h7 := hkle h9
     have h6 := HL2.out
     omega
    have hii : i' + 1 ≤ i := by omega
    clear hsr TA hkle hne
    go_wp2
    go_roundw
    case rel => exact ⟨i' + 1, hii, by go_num, HBk⟩
    case measure => simp [intOf]; omega
end
section
open Go.RowKit

def aB2 (s' : Sy) (w : World) (ev : Ending) (w' : World) : Prop := ∃ v', ev = .returned (.tuple #[.agg (v'.vals s'), .int .i64 0]) ∧ jY w' w.heap.size s' v' ∧ Below w.heap.size w w'
set_option maxHeartbeats 8000000 in
set_option maxRecDepth 100000 in
theorem TD (v : Sc) (s : Sy) (n : List UInt8) (cpu i k a : Nat) (c : Ca) (x : Sl) (w : World) (hs : qF w v s) (hk : dM s) (hf : ∀ c ∈ s.cs, c.ns.length ≤ 1000) (hi : s.named n = some i) (dP : cpu < s.h.aF) (hci : s.cs[i]? = some c) (hcx : c.sl[k]? = some x) (hout : lG s.w c x a) :
  Calls Tryz.prog 33 #[.agg #[.slice v.a1 v.n1 v.c1, .slice v.hc.az 2 v.hc.cz, .slice v.hc.am 2 v.hc.cm, .int .i64 (s.h.aF : Int), .slice v.hc.al v.hc.lc.length v.hc.cl, .slice v.hc.av s.h.live.length v.hc.cv, .slice v.a2 v.ys.length v.c2], .string ⟨n.toArray⟩, .int .i64 cpu, .int .i64 a] w (aB2 (s.free i k a cpu) w) := by
 obtain ⟨sF, Iq⟩ : ∃ sF, s.free i k a cpu = sF := ⟨_, rfl⟩
 rw [Iq]
 have HsF := gO Iq
 clear Iq
 obtain ⟨K1, K2, F1, F2, hsz, hbw⟩ := boxes2 w #[.slice v.a1 v.n1 v.c1, .slice v.hc.az 2 v.hc.cz, .slice v.hc.am 2 v.hc.cm, .int .i64 (s.h.aF : Int), .slice v.hc.al v.hc.lc.length v.hc.cl, .slice v.hc.av s.h.live.length v.hc.cv, .slice v.a2 v.ys.length v.c2] 47 #[.slice none 0 0, .slice none 0 0, .slice none 0 0, .int .i64 0, .slice none 0 0, .slice none 0 0, .slice none 0 0] 47
 obtain ⟨hil, hic⟩ := List.getElem?_eq_some_iff.1 hci
 obtain ⟨hkl, hkx⟩ := List.getElem?_eq_some_iff.1 hcx
 have hcm := gM hci
 have hxm := gM hcx
 have hck := hk.ck c hcm
 have hs1 := hs.below hbw
 have HA := gO (Eu v s n cpu i _ hs1 hk hf hi dP)
 obtain ⟨l, hl1, hl2, hl3⟩ := (hck.sk x hxm).chain
 have aB3 : Hid (∀ (v1 : Sc) (W : World), qF W v1 s → Calls Tryz.prog 43 #[.agg #[.slice v1.a1 v1.n1 v1.c1, .slice v1.hc.az 2 v1.hc.cz, .slice v1.hc.am 2 v1.hc.cm, .int .i64 (s.h.aF : Int), .slice v1.hc.al v1.hc.lc.length v1.hc.cl, .slice v1.hc.av s.h.live.length v1.hc.cv, .slice v1.a2 v1.ys.length v1.c2], .int .i64 a] W fun ev w' => ev = .returned (.tuple #[.int .i64 i, .int .i64 k, .int .i64 0]) ∧ Below W.heap.size W w') := fun v1 W h => by
  subst hic
  exact KF v1 s i k a l W h hk hf hil hkl (by rw [hkx]; exact hout.1) (by rw [hkx]; exact hl1) (hout.2 l hl1)
 have hpush := hk.push hci hcx hout
 have hpe := MW (a := a) hci hcx
 have hxb : -1 ≤ x.h ∧ x.h < 4096 := by
  have h9 := fV.1 hl1
  cases l with
  | nil => have : x.h = -1 := h9.1; omega
  | cons b m =>
   have e : x.h = b := h9.1.1
   have h8 := h9.2.1 b (by simp)
   rw [hk.wl] at h8
   omega
 have hal : a < 4096 := by
  have h1 := jW hck.room hout.1
  obtain ⟨b, hb, hb1, hb2⟩ := (hck.sk x hxm).live
  obtain ⟨_, _, h4, h5⟩ := (hk.hk.lv b hb).1
  have hor : c.o ≤ 2 := by rw [hck.o]; exact kH _
  rw [hb1, hb2] at h5
  rw [hb1] at h4
  generalize c.o = o at *
  obtain rfl | rfl | rfl : o = 0 ∨ o = 1 ∨ o = 2 := by omega
  ·simp only [Nat.pow_zero] at h1; omega
  ·simp only [Nat.pow_one] at h1 h5; omega
  ·have e4 : (2 : Nat) ^ 2 = 4 := rfl
   rw [e4] at h1 h5
   omega
 have hxn : x.n ≤ 64 := gQ (hck.sk x hxm).Gv hck.r64
 have hxp := (hck.sk x hxm).zW hk.hk
 have aE6 : a < s.w.length := by rw [hk.wl]; exact hal
 obtain ⟨k0, k1, k2, k3, k4, k5, k6⟩ := gA7 K1
 have HK := gO hk
 have rU := gO hck
 have HB1 := gO hbw
 have HK1 := gO K1
 have HF1 := gO F1
 have HK2 := gO K2
 have HF2 := gO F2
 have HP := gO hpush
 have HPE := gO hpe
 have Fa := gO hci
 have WS := gO hcx
 have MF := dP
 have aEW := hk.cl
 have aEX := hck.kV hk.hk
 have hwl := hk.wl
 clear hs hk hf hi hs1 K1 K2 F1 F2 hbw hpush hpe hci hcx hout hl1 hl2 hl3 hck hic hkx hcm hxm
 go_enter Tryz.func33, Tryz.ntmps33
 go_upto_region 1 with fail
 generalize (w.alloc (.cells #[.slice v.a1 v.n1 v.c1, .slice v.hc.az 2 v.hc.cz, .slice v.hc.am 2 v.hc.cm, .int .i64 (s.h.aF : Int), .slice v.hc.al v.hc.lc.length v.hc.cl, .slice v.hc.av s.h.live.length v.hc.cv, .slice v.a2 v.ys.length v.c2] 47)).alloc (.cells #[.slice none 0 0, .slice none 0 0, .slice none 0 0, .int .i64 0, .slice none 0 0, .slice none 0 0, .slice none 0 0] 47) = w1 at *
 have hsz1 : w.heap.size < w1.heap.size := by omega
 go_upto_region 4 with (go_at_call 71; refine HA.out.mono ?_; rintro ev w2 ⟨v1, he, hnew, hb2⟩; unfold UY Sc.vals at he; subst he; have K12 := aB HK1.out hsz1 hb2; have F12 := aJ HF1.out hsz1 hb2; obtain ⟨y0, y1, y2, y3, y4, y5, y6⟩ := gA7 K12; obtain ⟨f0, f1, f2, f3, f4, f5, f6⟩ := gF7 F12; skip)
 have rH := laid7 (T := w.heap.size + 1) HB1.out (Nat.lt_succ_self _) hsz HK1.out HF1.out HK2.out HF2.out hb2 hnew
 have HS3 := gO rH.1
 have HT3 := gO rH.2.1
 have HU3 := gO rH.2.2.1
 have HB3 := gO rH.2.2.2
 have ht2 : w.heap.size + 1 < w2.heap.size := gI hsz hb2.size
 have ht3 : w.heap.size + 1 < (((((((w2.setCell ⟨w.heap.size, 0, none⟩ (.slice v1.a1 v1.n1 v1.c1)).setCell ⟨w.heap.size, 1, none⟩ (.slice v1.hc.az 2 v1.hc.cz)).setCell ⟨w.heap.size, 2, none⟩ (.slice v1.hc.am 2 v1.hc.cm)).setCell ⟨w.heap.size, 3, none⟩ (.int .i64 (s.h.aF : Int))).setCell ⟨w.heap.size, 4, none⟩ (.slice v1.hc.al v1.hc.lc.length v1.hc.cl)).setCell ⟨w.heap.size, 5, none⟩ (.slice v1.hc.av s.h.live.length v1.hc.cv)).setCell ⟨w.heap.size, 6, none⟩ (.slice v1.a2 v1.ys.length v1.c2)).heap.size := by simpa using ht2
 clear K12 F12 y0 y1 y2 y3 y4 y5 y6 f0 f1 f2 f3 f4 f5 f6 rH hnew HA k0 k1 k2 k3 k4 k5 k6 HK1 HF1 HK2 HF2 hb2 ht2 HB1
 generalize ((((((w2.setCell ⟨w.heap.size, 0, none⟩ (.slice v1.a1 v1.n1 v1.c1)).setCell ⟨w.heap.size, 1, none⟩ (.slice v1.hc.az 2 v1.hc.cz)).setCell ⟨w.heap.size, 2, none⟩ (.slice v1.hc.am 2 v1.hc.cm)).setCell ⟨w.heap.size, 3, none⟩ (.int .i64 (s.h.aF : Int))).setCell ⟨w.heap.size, 4, none⟩ (.slice v1.hc.al v1.hc.lc.length v1.hc.cl)).setCell ⟨w.heap.size, 5, none⟩ (.slice v1.hc.av s.h.live.length v1.hc.cv)).setCell ⟨w.heap.size, 6, none⟩ (.slice v1.a2 v1.ys.length v1.c2) = w3 at *
 clear hsz hsz1
 obtain ⟨g0, g1, g2, g3, g4, g5, g6⟩ := gA7 HS3.out.k
 go_upto_region 7 with (go_at_call 43; refine (aB3.out v1 w3 HS3.out.r.at).mono ?_; rintro ev w4 ⟨rfl, hb4⟩)
 have HS4 := gO (HS3.out.below hb4)
 have HT4 := gO (aB HT3.out ht3 hb4)
 have HU4 := gO (aJ HU3.out ht3 hb4)
 have HB4 := gO (Below.step HB3.out hb4)
 have ht4 := gI ht3 hb4.size
 clear g0 g1 g2 g3 g4 g5 g6 hb4 HS3 HT3 HU3 HB3 ht3 aB3
 have hi1 : i < v1.ys.length := by
  have h := congrArg List.length HS4.out.r.cy
  simp only [List.length_map] at h
  omega
 have hvl : v1.ys.length ≤ 20 := by
  have h := congrArg List.length HS4.out.r.cy
  simp only [List.length_map] at h
  omega
 have Wy : v1.ys[i].c = c := by
  have h1 := congrArg (·[i]?) HS4.out.r.cy
  simp only [List.getElem?_map, gJ hi1, Option.map_some] at h1
  rw [Fa.out] at h1
  exact gP h1
 obtain ⟨gc, ha2, kW, Ey, JJ, hcc⟩ := HS4.out.r.LG hi1
 obtain ⟨hr1, hr2, hr3⟩ := HS4.out.r.y (gL hi1)
 obtain ⟨y, hy⟩ : ∃ y, v1.ys[i] = y := ⟨_, rfl⟩
 have HY := gO hy
 rw [hy] at hcc hr2 hr3 Wy
 subst Wy
 obtain ⟨hks, hkx⟩ := List.getElem?_eq_some_iff.1 WS.out
 have hcell : ∀ j, j < 3 → ∃ g, y.a2 = some ⟨g, 0, none⟩ ∧ g < w4.heap.size ∧ w4.cell? ⟨g, k * 3 + j, none⟩ = (aY x)[j]? ∧ w4.frozen? ⟨g, k * 3 + j, none⟩ = false := fun j hj => by
  have hlen : k * 3 + j < (flat aY y.c.sl).length := by rw [flat_length aK]; omega
  obtain ⟨g, h1, _, h2, h3, h4⟩ := lI hr2 (k * 3 + j) hlen
  refine ⟨g, h1, h2, ?_, h4⟩
  rw [h3, ← hkx, ← flat_get aK y.c.sl k hks j hj]
  exact (gJ hlen).symm
 obtain ⟨gs, hgs, GU, s0, p0⟩ := hcell 0 (by decide)
 obtain ⟨gs1, Gn, _, s1, p1⟩ := hcell 1 (by decide)
 obtain ⟨gs2, BH, _, s2, p2⟩ := hcell 2 (by decide)
 obtain rfl : gs = gs1 := by rw [hgs] at Gn; simpa using Gn
 obtain rfl : gs = gs2 := by rw [hgs] at BH; simpa using BH
 simp only [aY, vI, gC, gD, Nat.add_zero] at s0 s1 s2
 obtain ⟨gw, hgw, aB4, aIP, aIQ, hwc, hwf⟩ := HS4.out.r.wAt aE6
 have hws : gs ≠ gw := fun e => HS4.out.r.aBE hi1 hy hgw (by unfold kU; rw [hgs, e]; rfl)
 have b4 := (hcc 4 (by decide)).1
 simp only [bW, vI, gC, gD] at b4
 rw [hgs] at b4
 have g6 := HS4.out.k 6
 have g0 := HS4.out.k 0
 unfold Sc.vals at g0 g6
 simp only [gB, gC, gD] at g0 g6
 rw [ha2] at g6
 rw [hgw] at g0
 have hl2 : y.c.sl.length = y.n2 := aZ aK (by decide) hr2
 have hl3 : y.c.ac.length = y.n3 := by have := hr3.1; unfold nR at this; simpa using this
 have hkn : (k : Int) < y.n2 := by omega
 have hii : (i : Int) < v1.ys.length := by omega
 have hn1 : v1.n1 = 4096 := by rw [← HS4.out.r.at.lw, hwl]
 have han : (a : Int) < v1.n1 := by omega
 have TY := gO hi1
 have HA2 := gO ha2
 have Vm := gO hgs
 have HGW := gO hgw
 have Zj := gO hkx
 have HL2 := gO hl2
 have HL3 := gO hl3
 have HKS := gO hks
 clear hcell Gn BH hcc hy hr1 hr2 hr3 hkx hgs hgw ha2 hl2 hl3 hwl hn1
 go_upto_region 9 with fail
 have hd := (Below.refl w4.heap.size w4).drew
 have HS5 := gO (HS4.out.below hd)
 have HT5 := gO (aB HT4.out ht4 hd)
 have HU5 := gO (aJ HU4.out ht4 hd)
 have HB5 := gO (Below.step HB4.out hd)
 have ht5 := gI ht4 hd.size
 have s0' := (hd.cell (p := ⟨gs, k * 3, none⟩) GU).trans s0
 have s1' := (hd.cell (p := ⟨gs, k * 3 + 1, none⟩) GU).trans s1
 have s2' := (hd.cell (p := ⟨gs, k * 3 + 2, none⟩) GU).trans s2
 have p1' := (hd.frozen (p := ⟨gs, k * 3 + 1, none⟩) GU).trans p1
 have p2' := (hd.frozen (p := ⟨gs, k * 3 + 2, none⟩) GU).trans p2
 have hwc' := (hd.cell (p := ⟨gw, a, none⟩) aB4).trans hwc
 have hwf' := (hd.frozen (p := ⟨gw, a, none⟩) aB4).trans hwf
 go_still_tail 8, (by kernel_rfl)
 change wpList _ _ _ _ _ w4.drew
 have HGC4 := gO (show gc < w4.drew.heap.size from gI kW hd.size)
 clear s0 s1 s2 p0 p1 p2 hwc hwf hd HS4 HT4 HU4 HB4 ht4 g0 g6 b4 kW
 generalize w4.drew = w5 at *
 have hpush := HS5.out.aBD TY.out HY.out Vm.out HKS.out HGW.out a x.h (a : Int) (n' := x.n + 1)
 rw [Zj.out] at hpush
 rw [← HPE.out] at hpush
 have hxx : ((x.n + 1 : Nat) : Int) = (x.n : Int) + 1 := by omega
 unfold vI at hpush
 rw [hxx] at hpush
 have XL := gO hpush
 clear hpush hxx
 go_upto_region 12 with fail
 have hsafe := XL.out.2
 have HS6 := gO XL.out.1
 have HT6 := gO (hsafe.box HT5.out ht5 (.inr rfl))
 have HU6 := gO (hsafe.Qg HU5.out ht5 (.inr rfl))
 have ht6 := gI ht5 hsafe.size
 have HB6 : Hid (Below w.heap.size w _) := Safe.after HB5.out hsafe (fun k hk => .inl hk) HB5.out.size
 clear hsafe XL HT5 HU5 ht5 HB5 HS5 s0' s1' s2' p1' p2' hwc' hwf' HGC4
 generalize (((w5.setCell ⟨gw, a, none⟩ (.int .i64 x.h)).setCell ⟨gs, k * 3 + 2, none⟩ (.int .i64 (a : Int))).setCell ⟨gs, k * 3 + 1, none⟩ (.int .i64 ((x.n : Int) + 1))) = w6 at *
 obtain ⟨y', hy'⟩ : ∃ y' : Cc, y' = { y with c := { y.c with sl := y.c.sl.set k ⟨x.p, x.n + 1, (a : Int)⟩ } } := ⟨_, rfl⟩
 obtain ⟨v2, hv2⟩ : ∃ v2, v2 = v1.dH i y' := ⟨_, rfl⟩
 obtain ⟨x', hx'⟩ : ∃ x' : Sl, x' = ⟨x.p, x.n + 1, (a : Int)⟩ := ⟨_, rfl⟩
 have hi2 : i < v2.ys.length := by rw [hv2]; unfold Sc.dH; simpa using TY.out
 have Za : v2.ys[i] = y' := by subst hv2; simp [Sc.dH]
 have hva : v2.a2 = some ⟨gc, 0, none⟩ := by rw [hv2]; exact HA2.out
 have hya : y'.a2 = some ⟨gs, 0, none⟩ := by rw [hy']; exact Vm.out
 have hyn : y'.n2 = y.n2 := by rw [hy']
 have EH : Hid (SS w6 w.heap.size (fun k => k < w.heap.size ∨ k = w.heap.size + 1) (s.push i k a) v2) := by
  unfold Hid
  rw [hv2, hy']
  exact HS6.out
 have HK6 := gO HP.out.1
 have hc6 : (s.push i k a).cs[i]? = some y'.c := by rw [HP.out.2.2, hy']
 have hx6 : y'.c.sl[k]? = some x' := by
  rw [hy', hx']
  show (y.c.sl.set k _)[k]? = _
  rw [List.getElem?_set_self HKS.out]
 have aB5 : (s.push i k a).h.aF = s.h.aF := by rw [HPE.out]
 obtain ⟨s1, hs1⟩ : ∃ s1, s.push i k a = s1 := ⟨_, rfl⟩
 have vW : Hid (s.free i k a cpu = if s1.spare i k then s1.discard i k cpu else s1) := by
  unfold Hid Sy.free
  rw [hs1]
 rw [hs1] at EH HK6 hc6 aB5
 have aB6 : cpu < s1.h.aF := by omega
 have hsp : s1.spare i k = (y'.c.idle x' && decide (1 < (y'.c.sl.filter y'.c.idle).length)) := by
  unfold Sy.spare Ca.spare
  rw [hc6]
  simp only [hx6]
 have HCK6 := gO (HK6.out.ck _ (gM hc6))
 have Bc := gO (EH.out.r.at.ca y' (by rw [← Za]; exact gL hi2))
 have hn2 : y'.n2 ≤ 256 := by
  have h1 := Bc.out.l2
  have h2 := HCK6.out.kV HK6.out.hk
  omega
 have hn3 : y'.n3 ≤ 1000 := by
  have h1 := Bc.out.l3
  have h2 := HCK6.out.ac
  have h3 := HK6.out.hk.cp.2
  omega
 have aIS : v2.ys.length ≤ 20 := by rw [hv2]; unfold Sc.dH; simpa using hvl
 have hii2 : (i : Int) < v2.ys.length := by omega
 have hkn2 : (k : Int) < y'.n2 := by rw [hyn]; exact hkn
 obtain ⟨gc2, JO, Ag, _, _, nN⟩ := EH.out.r.LG hi2
 obtain rfl : gc = gc2 := by rw [hva] at JO; simpa using JO
 rw [Za] at nN
 have b0 := (nN 0 (by decide)).1
 have b1 := (nN 1 (by decide)).1
 have b2 := (nN 2 (by decide)).1
 have b3 := (nN 3 (by decide)).1
 have b4 := (nN 4 (by decide)).1
 have b5 := (nN 5 (by decide)).1
 simp only [bW, vI, gC, gD, Nat.add_zero] at b0 b1 b2 b3 b4 b5
 rw [hya] at b4
 have aB7 : k < y'.c.sl.length := (List.getElem?_eq_some_iff.1 hx6).1
 have aB8 : y'.c.sl[k] = x' := (List.getElem?_eq_some_iff.1 hx6).2
 obtain ⟨sb, so, hsb, GI, sZ⟩ := aN aK (by decide) Bc.out.r2 aB7
 rw [hya] at hsb
 obtain ⟨rfl, rfl⟩ : sb = gs ∧ so = 0 := by simpa [eq_comm] using hsb
 obtain ⟨e0, e1, e2⟩ := fB sZ
 rw [aB8] at e0 e1 e2
 simp only [Nat.zero_add] at e0 e1 e2
 have L0 : ∀ W, Below w6.heap.size w6 W → W.cell? ⟨gc, i * 6, none⟩ = some (.slice y'.a1 y'.n1 y'.c1) := fun W h => (h.cell (p := ⟨gc, i * 6, none⟩) Ag).trans b0
 have L1 : ∀ W, Below w6.heap.size w6 W → W.cell? ⟨gc, i * 6 + 1, none⟩ = some (.int .i64 (y'.c.z : Int)) := fun W h => (h.cell (p := ⟨gc, i * 6 + 1, none⟩) Ag).trans b1
 have L2 : ∀ W, Below w6.heap.size w6 W → W.cell? ⟨gc, i * 6 + 2, none⟩ = some (.int .i64 (y'.c.r : Int)) := fun W h => (h.cell (p := ⟨gc, i * 6 + 2, none⟩) Ag).trans b2
 have L3 : ∀ W, Below w6.heap.size w6 W → W.cell? ⟨gc, i * 6 + 3, none⟩ = some (.int .i64 (y'.c.o : Int)) := fun W h => (h.cell (p := ⟨gc, i * 6 + 3, none⟩) Ag).trans b3
 have L4 : ∀ W, Below w6.heap.size w6 W → W.cell? ⟨gc, i * 6 + 4, none⟩ = some (.slice (some ⟨sb, 0, none⟩) y'.n2 y'.c2) := fun W h => (h.cell (p := ⟨gc, i * 6 + 4, none⟩) Ag).trans b4
 have L5 : ∀ W, Below w6.heap.size w6 W → W.cell? ⟨gc, i * 6 + 5, none⟩ = some (.slice y'.a3 y'.n3 y'.c3) := fun W h => (h.cell (p := ⟨gc, i * 6 + 5, none⟩) Ag).trans b5
 have Ir : Hid (∀ (z : Sl) W, Below w6.heap.size w6 W → Calls Tryz.prog 73 #[.agg #[.slice y'.a1 y'.n1 y'.c1, .int .i64 y'.c.z, .int .i64 y'.c.r, .int .i64 y'.c.o, .slice (some ⟨sb, 0, none⟩) y'.n2 y'.c2, .slice y'.a3 y'.n3 y'.c3], .agg #[.int .i64 z.p, .int .i64 z.n, .int .i64 z.h]] W fun ev w' => ev = .returned (.bool (y'.c.idle z)) ∧ Below W.heap.size W w') := fun z W hW => by
  have h := SV y' z W Bc.out.l3 hn3 (Bc.out.r3.below hW)
  rw [hya] at h
  exact h
 have HID1 := gO (Ir.out x')
 have Ji := gO hsp
 have HHI2 := gO hi2
 have HVI := gO Za
 have HYA := gO hya
 have YI := gO Bc.out.l2
 have LS0 : ∀ W, Below w6.heap.size w6 W → W.cell? ⟨sb, k * 3, none⟩ = some (.int .i64 (x'.p : Int)) := fun W h => (h.cell (p := ⟨sb, k * 3, none⟩) GI).trans e0
 have LS1 : ∀ W, Below w6.heap.size w6 W → W.cell? ⟨sb, k * 3 + 1, none⟩ = some (.int .i64 (x'.n : Int)) := fun W h => (h.cell (p := ⟨sb, k * 3 + 1, none⟩) GI).trans e1
 have LS2 : ∀ W, Below w6.heap.size w6 W → W.cell? ⟨sb, k * 3 + 2, none⟩ = some (.int .i64 x'.h) := fun W h => (h.cell (p := ⟨sb, k * 3 + 2, none⟩) GI).trans e2
 obtain ⟨bi, hbi⟩ : ∃ bi, y'.c.idle x' = bi := ⟨_, rfl⟩
 rw [hbi] at hsp HID1 Ji
 have RV := gO hbi
 have HL0 := gO L0
 have HL1 := gO L1
 have HL2 := gO L2
 have HL3 := gO L3
 have HL4 := gO L4
 have HL5 := gO L5
 have aIV := gO GI
 clear hsp hbi b0 b1 b2 b3 b4 b5 e0 e1 e2 Za hva hya hyn hc6 hx6 nN aB7 aB8 hsb sZ hv2 hy' hx' HS6 HP HPE Fa WS rU HY Zj hs1 JO aB5 hvl hii hkn TY HKS hkl hks hil
 go_cut [81] (fun s81 wx => s81 = .bool bi ∧ Hid (Below w6.heap.size w6 wx))
 case first =>
  go_region_held3 (fun W => Below w6.heap.size w6 W) ((repeat (first | with_reducible assumption | with_reducible exact Below.refl _ _ | with_reducible refine Below.setCell ?_ ?_ _ | with_reducible apply Below.drew | with_reducible refine Below.step ?_ (aC _ _) | with_reducible refine Below.step ?_ (by with_reducible assumption) | (simp only; omega))))(first | (go_at_call 73; refine (HID1.out _ (by with_reducible assumption)).mono ?_; rintro ev w7 ⟨rfl, hb7⟩))
  all_goals
   go_wp2_with fail
   go_meet
   exact ⟨by first | rfl | trivial, by assumption⟩
 case rest =>
  obtain ⟨rfl, HB7⟩ := hcut
  obtain ⟨w7, rfl⟩ : ∃ w7, w7 = wc := ⟨_, rfl⟩
  clear L0 L1 L2 L3 L4 L5 LS0 LS1 LS2 HID1
  have HB67 := gO (HB6.out.trans (HB7.out.mono (gR (Nat.lt_of_succ_lt ht6))))
  cases bi with
  | false =>
   have Iq : sF = s1 := by
    rw [← HsF.out, vW.out, Ji.out]
    rfl
   subst Iq
   have kM := gO (EH.out.below HB7.out)
   have jJ := gO (aB HT6.out ht6 HB7.out)
   have Az := gO (aJ HU6.out ht6 HB7.out)
   have AA := HB67
   clear EH HT6 HU6 HB7 HB67 Ir Ji vW HL0 HL1 HL2 HL3 HL4 HL5
   have z0 := kM.out.k 0
   have z1 := kM.out.k 1
   have z2 := kM.out.k 2
   have z3 := kM.out.k 3
   have z4 := kM.out.k 4
   have z5 := kM.out.k 5
   have z6 := kM.out.k 6
   unfold Sc.vals at z0 z1 z2 z3 z4 z5 z6
   have q0 := jJ.out 0
   have q1 := jJ.out 1
   have q2 := jJ.out 2
   have q3 := jJ.out 3
   have q4 := jJ.out 4
   have q5 := jJ.out 5
   have q6 := jJ.out 6
   obtain ⟨f0, f1, f2, f3, f4, f5, f6⟩ := gF7 Az.out
   simp only [gB, gC, gD] at z0 z1 z2 z3 z4 z5 z6 q0 q1 q2 q3 q4 q5 q6
   have iW := out7 kM.out (T := w.heap.size + 1) (.inr rfl) (fun k hk => .inl hk) (Nat.lt_succ_self _) jJ.out AA.out
   have KX := iW.1
   have pI := gO iW.2.1
   have kK := gO iW.2.2
   clear iW kM jJ Az AA
   go_wp2_with fail
   generalize ((((((w7.setCell ⟨w.heap.size + 1, 0, none⟩ (.slice v2.a1 v2.n1 v2.c1)).setCell ⟨w.heap.size + 1, 1, none⟩ (.slice v2.hc.az 2 v2.hc.cz)).setCell ⟨w.heap.size + 1, 2, none⟩ (.slice v2.hc.am 2 v2.hc.cm)).setCell ⟨w.heap.size + 1, 3, none⟩ (.int .i64 (sF.h.aF : Int))).setCell ⟨w.heap.size + 1, 4, none⟩ (.slice v2.hc.al v2.hc.lc.length v2.hc.cl)).setCell ⟨w.heap.size + 1, 5, none⟩ (.slice v2.hc.av sF.h.live.length v2.hc.cv)).setCell ⟨w.heap.size + 1, 6, none⟩ (.slice v2.a2 v2.ys.length v2.c2) = wx at *
   exact bodyPost_ret (v := .tuple #[.agg #[.slice v2.a1 v2.n1 v2.c1, .slice v2.hc.az 2 v2.hc.cz, .slice v2.hc.am 2 v2.hc.cm, .int .i64 (sF.h.aF : Int), .slice v2.hc.al v2.hc.lc.length v2.hc.cl, .slice v2.hc.av sF.h.live.length v2.hc.cv, .slice v2.a2 v2.ys.length v2.c2], .int .i64 0]) (by simp [results, Tryz.results33, go_sem, KX]) rfl (⟨v2, rfl, pI.out, kK.out⟩)

  | true =>
   have b4 := HL4.out w7 HB7.out
   go_wp2_with fail
   clear b4
   go_loopw [16, 87] (fun s16 s87 wr => ∃ (j q : Nat), j ≤ y'.n2 ∧ s87 = .int .i64 (j : Int) ∧ s16 = .int .i64 (q : Int) ∧ q ≤ j ∧ Hid (((y'.c.sl.take j).filter y'.c.idle).length = q) ∧ Hid (Below w6.heap.size w6 wr)) (fun s16 s87 _ => y'.n2 - (intOf s87).toNat)
   case atStart => exact ⟨0, 0, Nat.zero_le _, rfl, rfl, Nat.zero_le _, rfl, HB7⟩
   case round =>
    obtain ⟨j, q, hjn, rfl, rfl, hqj, HQ, lK⟩ := hrel
    by_cases hlt : j < y'.n2
    ·have hji : (j : Int) < y'.n2 := by omega
     have hjs : j < y'.c.sl.length := by have := YI.out; omega
     obtain ⟨sb2, so2, YJ, aGS, WX⟩ := aN aK (by decide) (Bc.out.r2.below lK.out) hjs
     rw [HYA.out] at YJ
     obtain ⟨rfl, rfl⟩ : sb = sb2 ∧ so2 = 0 := by simpa [eq_comm] using YJ
     obtain ⟨n0, n1, n2⟩ := fB WX
     simp only [Nat.zero_add] at n0 n1 n2
     have HZ : Hid ((((y'.c.sl.take (j + 1)).filter y'.c.idle).length : Nat) = q + (if y'.c.idle y'.c.sl[j] then 1 else 0)) := by
      unfold Hid
      rw [List.take_succ_eq_append_getElem hjs, List.filter_append, List.length_append, HQ.out]
      congr 1
      by_cases h : y'.c.idle y'.c.sl[j] = true <;> simp [h]
     have HI := gO (Ir.out y'.c.sl[j])
     generalize y'.c.sl[j] = z at *
     have b9 := aC wr (.cells #[.int .i64 (z.p : Int), .int .i64 (z.n : Int), .int .i64 z.h] 137)
     have KX := bC wr #[.int .i64 (z.p : Int), .int .i64 (z.n : Int), .int .i64 z.h] 137
     have hs9 : wr.heap.size < (wr.alloc (.cells #[.int .i64 (z.p : Int), .int .i64 (z.n : Int), .int .i64 z.h] 137)).heap.size := by simp
     have HB9 := gO (Below.step lK.out b9)
     have m0 := KX 0
     have m1 := KX 1
     have m2 := KX 2
     simp only [gB, gC, gD] at m0 m1 m2
     clear KX b9 WX YJ
     go_upto_region 17 with fail
     clear n0 n1 n2
     generalize (wr.alloc (.cells #[.int .i64 (z.p : Int), .int .i64 (z.n : Int), .int .i64 z.h] 137)) = w9 at *
     generalize wr.heap.size = BX at *
     have L0 : ∀ W, Below w9.heap.size w9 W → W.cell? ⟨gc, i * 6, none⟩ = some (.slice y'.a1 y'.n1 y'.c1) := fun W h => HL0.out W (HB9.out.trans (h.mono HB9.out.size))
     have L1 : ∀ W, Below w9.heap.size w9 W → W.cell? ⟨gc, i * 6 + 1, none⟩ = some (.int .i64 (y'.c.z : Int)) := fun W h => HL1.out W (HB9.out.trans (h.mono HB9.out.size))
     have L2 : ∀ W, Below w9.heap.size w9 W → W.cell? ⟨gc, i * 6 + 2, none⟩ = some (.int .i64 (y'.c.r : Int)) := fun W h => HL2.out W (HB9.out.trans (h.mono HB9.out.size))
     have L3 : ∀ W, Below w9.heap.size w9 W → W.cell? ⟨gc, i * 6 + 3, none⟩ = some (.int .i64 (y'.c.o : Int)) := fun W h => HL3.out W (HB9.out.trans (h.mono HB9.out.size))
     have L4 : ∀ W, Below w9.heap.size w9 W → W.cell? ⟨gc, i * 6 + 4, none⟩ = some (.slice (some ⟨sb, 0, none⟩) y'.n2 y'.c2) := fun W h => HL4.out W (HB9.out.trans (h.mono HB9.out.size))
     have L5 : ∀ W, Below w9.heap.size w9 W → W.cell? ⟨gc, i * 6 + 5, none⟩ = some (.slice y'.a3 y'.n3 y'.c3) := fun W h => HL5.out W (HB9.out.trans (h.mono HB9.out.size))
     have L6 : ∀ W, Below w9.heap.size w9 W → W.cell? ⟨BX, 0, none⟩ = some (.int .i64 (z.p : Int)) := fun W h => (h.cell (p := ⟨BX, 0, none⟩) hs9).trans m0
     have L7 : ∀ W, Below w9.heap.size w9 W → W.cell? ⟨BX, 1, none⟩ = some (.int .i64 (z.n : Int)) := fun W h => (h.cell (p := ⟨BX, 1, none⟩) hs9).trans m1
     have L8 : ∀ W, Below w9.heap.size w9 W → W.cell? ⟨BX, 2, none⟩ = some (.int .i64 z.h) := fun W h => (h.cell (p := ⟨BX, 2, none⟩) hs9).trans m2
     have HI9 : Hid (∀ W, Below w9.heap.size w9 W → Calls Tryz.prog 73 #[.agg #[.slice y'.a1 y'.n1 y'.c1, .int .i64 y'.c.z, .int .i64 y'.c.r, .int .i64 y'.c.o, .slice (some ⟨sb, 0, none⟩) y'.n2 y'.c2, .slice y'.a3 y'.n3 y'.c3], .agg #[.int .i64 z.p, .int .i64 z.n, .int .i64 z.h]] W fun ev w' => ev = .returned (.bool (y'.c.idle z)) ∧ Below W.heap.size W w') := fun W h => HI.out W (HB9.out.trans (h.mono HB9.out.size))
     obtain ⟨bz, hbz⟩ : ∃ bz, y'.c.idle z = bz := ⟨_, rfl⟩
     rw [hbz] at HZ HI9
     clear m0 m1 m2 hbz HI
     go_cut [85, 86, 87, 95] (fun s85 s86 s87 s95 wx => s85 = .slice (some ⟨sb, 0, none⟩) y'.n2 y'.c2 ∧ s86 = .int .i64 (y'.n2 : Int) ∧ s87 = .int .i64 (j : Int) ∧ s95 = .bool bz ∧ Hid (Below w9.heap.size w9 wx))
     case first =>
      go_region_held3 (fun W => Below w9.heap.size w9 W) ((repeat (first | with_reducible assumption | with_reducible exact Below.refl _ _ | with_reducible refine Below.setCell ?_ ?_ _ | with_reducible apply Below.drew | with_reducible refine Below.step ?_ (aC _ _) | with_reducible refine Below.step ?_ (by with_reducible assumption) | (simp only; omega))))(first | (go_at_call 73; refine (HI9.out _ (by with_reducible assumption)).mono ?_; rintro ev w10 ⟨rfl, mQ⟩))
      all_goals
       go_wp2_with fail
       go_meet
       exact ⟨by first | rfl | trivial, by first | rfl | trivial, by first | rfl | trivial, by first | rfl | trivial, by assumption⟩
     case rest =>
      obtain ⟨rfl, rfl, rfl, rfl, HB10⟩ := hcut
      clear L0 L1 L2 L3 L4 L5 L6 L7 L8 HI9
      have TW := gO (HB9.out.trans (HB10.out.mono HB9.out.size))
      cases bz with
      | false =>
       go_wp2
       go_roundw
       case rel => exact ⟨j + 1, q, by omega, by go_num, by first | rfl | trivial, by omega, HZ, TW⟩
       case measure => simp [intOf]; omega
      | true =>
       go_wp2
       go_roundw
       case rel => exact ⟨j + 1, q + 1, by omega, by go_num, by go_num, by omega, HZ, TW⟩
       case measure => simp [intOf]; omega
    ·obtain rfl : j = y'.n2 := by omega
     have HQN : Hid ((y'.c.sl.filter y'.c.idle).length = q) := by
      have h := HQ.out
      rw [List.take_of_length_le (by have := YI.out; omega)] at h
      exact h
     by_cases hq : 1 < q
     ·have hqi : (1 : Int) < q := by omega
      have Iq : sF = s1.discard i k cpu := by
       rw [← HsF.out, vW.out, Ji.out, HQN.out, decide_eq_true hq]
       rfl
      have jF := EH.out.below lK.out
      have HTr := gO (aB HT6.out ht6 lK.out)
      have HUr := gO (aJ HU6.out ht6 lK.out)
      have YK := gO (HB6.out.trans (lK.out.mono (gR (Nat.lt_of_succ_lt ht6))))
      have htr := gI ht6 lK.out.size
      have HDC := gO (yD v2 s1 w.heap.size i k cpu (fun k => k < w.heap.size ∨ k = w.heap.size + 1) wr jF HK6.out hi2 (by rw [HVI.out]; have := YI.out; omega) aB6)
      clear EH HT6 HU6 HB7 HB67 Ir Ji HL0 HL1 HL2 HL3 HL4 HL5 jF HQ lK vW HsF
      go_upto_region 22 with (go_at_call 74; refine HDC.out.mono ?_; rintro ev w20 ⟨rfl, v3, YL, VG, aBY⟩)
      rw [← Iq] at YL
      have kM := gO YL
      have jJ := gO (VG.box HTr.out htr (.inr rfl))
      have Az := gO (VG.Qg HUr.out htr (.inr rfl))
      have AA : Hid (Below w.heap.size w w20) := Safe.after YK.out VG (fun k hk => .inl hk) YK.out.size
      clear YL VG aBY HTr HUr YK HDC Iq
      have z0 := kM.out.k 0
      have z1 := kM.out.k 1
      have z2 := kM.out.k 2
      have z3 := kM.out.k 3
      have z4 := kM.out.k 4
      have z5 := kM.out.k 5
      have z6 := kM.out.k 6
      unfold Sc.vals at z0 z1 z2 z3 z4 z5 z6
      have q0 := jJ.out 0
      have q1 := jJ.out 1
      have q2 := jJ.out 2
      have q3 := jJ.out 3
      have q4 := jJ.out 4
      have q5 := jJ.out 5
      have q6 := jJ.out 6
      obtain ⟨f0, f1, f2, f3, f4, f5, f6⟩ := gF7 Az.out
      simp only [gB, gC, gD] at z0 z1 z2 z3 z4 z5 z6 q0 q1 q2 q3 q4 q5 q6
      have iW := out7 kM.out (T := w.heap.size + 1) (.inr rfl) (fun k hk => .inl hk) (Nat.lt_succ_self _) jJ.out AA.out
      have KX := iW.1
      have pI := gO iW.2.1
      have kK := gO iW.2.2
      clear iW kM jJ Az AA
      go_wp2_with fail
      generalize ((((((w20.setCell ⟨w.heap.size + 1, 0, none⟩ (.slice v3.a1 v3.n1 v3.c1)).setCell ⟨w.heap.size + 1, 1, none⟩ (.slice v3.hc.az 2 v3.hc.cz)).setCell ⟨w.heap.size + 1, 2, none⟩ (.slice v3.hc.am 2 v3.hc.cm)).setCell ⟨w.heap.size + 1, 3, none⟩ (.int .i64 (sF.h.aF : Int))).setCell ⟨w.heap.size + 1, 4, none⟩ (.slice v3.hc.al v3.hc.lc.length v3.hc.cl)).setCell ⟨w.heap.size + 1, 5, none⟩ (.slice v3.hc.av sF.h.live.length v3.hc.cv)).setCell ⟨w.heap.size + 1, 6, none⟩ (.slice v3.a2 v3.ys.length v3.c2) = wx at *
      exact bodyPost_ret (v := .tuple #[.agg #[.slice v3.a1 v3.n1 v3.c1, .slice v3.hc.az 2 v3.hc.cz, .slice v3.hc.am 2 v3.hc.cm, .int .i64 (sF.h.aF : Int), .slice v3.hc.al v3.hc.lc.length v3.hc.cl, .slice v3.hc.av sF.h.live.length v3.hc.cv, .slice v3.a2 v3.ys.length v3.c2], .int .i64 0]) (by simp [results, Tryz.results33, go_sem, KX]) rfl (⟨v3, rfl, pI.out, kK.out⟩)

     ·have hqi : ¬ (1 : Int) < q := by omega
      have Iq : sF = s1 := by
       rw [← HsF.out, vW.out, Ji.out, HQN.out, decide_eq_false hq]
       rfl
      subst Iq
      have kM := gO (EH.out.below lK.out)
      have jJ := gO (aB HT6.out ht6 lK.out)
      have Az := gO (aJ HU6.out ht6 lK.out)
      have AA := gO (HB6.out.trans (lK.out.mono (gR (Nat.lt_of_succ_lt ht6))))
      clear EH HT6 HU6 HB7 HB67 Ir Ji vW HL0 HL1 HL2 HL3 HL4 HL5 HQ lK
      have z0 := kM.out.k 0
      have z1 := kM.out.k 1
      have z2 := kM.out.k 2
      have z3 := kM.out.k 3
      have z4 := kM.out.k 4
      have z5 := kM.out.k 5
      have z6 := kM.out.k 6
      unfold Sc.vals at z0 z1 z2 z3 z4 z5 z6
      have q0 := jJ.out 0
      have q1 := jJ.out 1
      have q2 := jJ.out 2
      have q3 := jJ.out 3
      have q4 := jJ.out 4
      have q5 := jJ.out 5
      have q6 := jJ.out 6
      obtain ⟨f0, f1, f2, f3, f4, f5, f6⟩ := gF7 Az.out
      simp only [gB, gC, gD] at z0 z1 z2 z3 z4 z5 z6 q0 q1 q2 q3 q4 q5 q6
      have iW := out7 kM.out (T := w.heap.size + 1) (.inr rfl) (fun k hk => .inl hk) (Nat.lt_succ_self _) jJ.out AA.out
      have KX := iW.1
      have pI := gO iW.2.1
      have kK := gO iW.2.2
      clear iW kM jJ Az AA
      go_wp2_with fail
      generalize ((((((wr.setCell ⟨w.heap.size + 1, 0, none⟩ (.slice v2.a1 v2.n1 v2.c1)).setCell ⟨w.heap.size + 1, 1, none⟩ (.slice v2.hc.az 2 v2.hc.cz)).setCell ⟨w.heap.size + 1, 2, none⟩ (.slice v2.hc.am 2 v2.hc.cm)).setCell ⟨w.heap.size + 1, 3, none⟩ (.int .i64 (sF.h.aF : Int))).setCell ⟨w.heap.size + 1, 4, none⟩ (.slice v2.hc.al v2.hc.lc.length v2.hc.cl)).setCell ⟨w.heap.size + 1, 5, none⟩ (.slice v2.hc.av sF.h.live.length v2.hc.cv)).setCell ⟨w.heap.size + 1, 6, none⟩ (.slice v2.a2 v2.ys.length v2.c2) = wx at *
      exact bodyPost_ret (v := .tuple #[.agg #[.slice v2.a1 v2.n1 v2.c1, .slice v2.hc.az 2 v2.hc.cz, .slice v2.hc.am 2 v2.hc.cm, .int .i64 (sF.h.aF : Int), .slice v2.hc.al v2.hc.lc.length v2.hc.cl, .slice v2.hc.av sF.h.live.length v2.hc.cv, .slice v2.a2 v2.ys.length v2.c2], .int .i64 0]) (by simp [results, Tryz.results33, go_sem, KX]) rfl (⟨v2, rfl, pI.out, kK.out⟩)
end
end Go.Proofs.YtcmpmobhongkiaaGreatDoor
