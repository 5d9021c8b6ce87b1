/- texts of this claim, joined. -/
import Derived.Test.YtcmpmobhongkiaaGreatDoorCM0
import Derived.Test.YtcmpmobhongkiaaGreatDoorCM17
import Derived.Test.YtcmpmobhongkiaaGreatDoorCM35
import Derived.Test.YtcmpmobhongkiaaGreatDoorCM39
import Derived.Test.YtcmpmobhongkiaaGreatDoorCM42
import Derived.StillTailTactics
set_option linter.unusedVariables false
set_option linter.unusedSimpArgs false
namespace Go.Proofs.YtcmpmobhongkiaaGreatDoor
section
open Go.RowKit

set_option maxHeartbeats 8000000 in
set_option maxRecDepth 100000 in
theorem JW (v : Sc) (s : Sy) (i k : Nat) (a : Int) (l : List Int) (w : World) (hs : rP w v s) (hk : fC s) (hf : ∀ c ∈ s.cs, c.ns.length ≤ 1000) (hi : i < s.cs.length) (hkk : k < s.cs[i].sl.length) (hob : iM s.cs[i] s.cs[i].sl[k].p a = true) (hfl : follow s.w s.cs[i].sl[k].h s.cs[i].r = some l) (hal : a ∉ l) :
  Calls Tryz.prog 43 #[.agg #[.slice v.a1 v.n1 v.c1, .slice v.hc.az 2 v.hc.cz, .slice v.hc.am 2 v.hc.cm, .int .i64 (s.h.aF : Int), .slice v.hc.al v.hc.lc.length v.hc.cl, .slice v.hc.av s.h.live.length v.hc.cv, .slice v.a2 v.ys.length v.c2], .int .i64 a] w fun ev w' => ev = .returned (.tuple #[.int .i64 i, .int .i64 k, .int .i64 0]) ∧ Below w.heap.size w w' := by
 obtain ⟨K0, F0, hsz, hbw⟩ := boxes1 w #[.slice v.a1 v.n1 v.c1, .slice v.hc.az 2 v.hc.cz, .slice v.hc.am 2 v.hc.cm, .int .i64 (s.h.aF : Int), .slice v.hc.al v.hc.lc.length v.hc.cl, .slice v.hc.av s.h.live.length v.hc.cv, .slice v.a2 v.ys.length v.c2] 47
 have HS := gO (hs.below hbw)
 have HB := gO hbw
 have HK := gO hk
 have HK0 := gO K0
 have qL := gO (rE v s _ (hs.below hbw) hk hf)
 have hyl : v.ys.length ≤ 20 := by have := congrArg List.length hs.cy; rw [List.length_map] at this; rw [this]; exact hk.cl
 have aBd : v.ys.length = s.cs.length := by have := congrArg List.length hs.cy; simpa using this
 have hab : 0 ≤ a ∧ a < 4096 := by
  have h1 := jY (hk.ck _ (gL hi)).room hob
  obtain ⟨b, hb, hb1, hb2⟩ := ((hk.ck _ (gL hi)).sk _ (gL hkk)).live
  obtain ⟨⟨_, _, h3, h4⟩, _⟩ := hk.hk.lv b hb
  have h5 : s.cs[i].o ≤ 2 := by rw [(hk.ck _ (gL hi)).o]; exact lD _
  rw [hb1] at h3 h4
  rw [hb2] at h4
  generalize s.cs[i].o = o at *
  obtain rfl | rfl | rfl : o = 0 ∨ o = 1 ∨ o = 2 := by omega
  ·omega
  ·omega
  ·omega
 have aEe := gO aBd
 have HOB := gO hob
 have HFL := gO hfl
 have EK := gO hal
 obtain ⟨k0, k1, k2, k3, k4, k5, k6⟩ := gA7 K0
 clear hs hk hf hbw K0 F0 hob hfl hal aBd
 go_enter Tryz.func43, Tryz.ntmps43
 go_upto_region 1 with fail
 generalize w.alloc (.cells #[.slice v.a1 v.n1 v.c1, .slice v.hc.az 2 v.hc.cz, .slice v.hc.am 2 v.hc.cm, .int .i64 (s.h.aF : Int), .slice v.hc.al v.hc.lc.length v.hc.cl, .slice v.hc.av s.h.live.length v.hc.cv, .slice v.a2 v.ys.length v.c2] 47) = w1 at *
 go_upto_region 4 with (go_at_call 38; refine qL.out.mono ?_; rintro ev w2 ⟨rfl, hb2⟩)
 have HB2 := gO hb2
 have k6' := (hb2.cell (p := ⟨w.heap.size, 6, none⟩) hsz).trans k6
 clear k0 k1 k2 k3 k4 k5 k6 qL hb2
 go_wp2_with fail
 clear k6'
 go_loopw [22] (fun s22 wr => ∃ (i' : Nat), i' ≤ i ∧ s22 = .int .i64 (i' : Int) ∧ Hid (Below w1.heap.size w1 wr)) (fun s22 _ => v.ys.length - (intOf s22).toNat)
 case atStart => exact ⟨0, Nat.zero_le _, rfl, HB2⟩
 case round =>
  obtain ⟨i', hi', rfl, lM⟩ := hrel
  have hlt : i' < v.ys.length := by rw [aEe.out]; omega
  have hic : i' < s.cs.length := by omega
  have Jc : (i' : Int) < v.ys.length := by omega
  have hel : v.ys[i'].c = s.cs[i'] := by
   have h1 := congrArg (·[i']?) HS.out.cy
   simp [hlt, hic] at h1
   exact h1
  have jG := HS.out.below lM.out
  obtain ⟨bb, off, hba, hbb, hbc⟩ := aN cZ (by decide) jG.rc hlt
  obtain ⟨e0, e1, e2, e3, e4, e5⟩ := mZ hbc
  have hcy := jG.ca _ (gL hlt)
  have hck := HK.out.ck _ (gL hic)
  rw [← hel] at hck
  have VN : ∀ (c : Ca), c = s.cs[i'] → ∀ k' x, c.sl[k']? = some x → ¬ (i' = i ∧ k' = k) → iM c x.p a = false := fun c hc k' x hx hne => by
   subst hc
   obtain ⟨hk', e⟩ := List.getElem?_eq_some_iff.1 hx
   cases h : iM s.cs[i'] x.p a with
   | false => rfl
   | true =>
    rw [← e] at h
    exact absurd (HK.out.only hic hi hk' hkk h HOB.out) hne
  have VO : ∀ (c : Ca), c = s.cs[i'] → i' = i → ∃ x, c.sl[k]? = some x ∧ iM c x.p a = true ∧ follow s.w x.h c.r = some l := fun c hc he => by
   subst hc
   subst he
   exact ⟨_, gJ hkk, HOB.out, HFL.out⟩
  have JX := VN _ hel
  have JY := VO _ hel
  obtain ⟨y, hy⟩ : ∃ y, v.ys[i'] = y := ⟨_, rfl⟩
  rw [hy] at JX JY
  rw [hy] at e0 e1 e2 e3 e4 e5 hcy hck
  have HON := gO JX
  have Yx := gO JY
  have HY := gO hy
  have hsl := hck.kT HK.out.hk
  have hl2 := hcy.l2
  have hn2 : y.n2 ≤ 256 := by omega
  have HL2 := gO hl2
  have AP := gO hcy
  have BD := gO hck
  have HA := gO hba
  rw [hba]
  clear hbc hba hel jG hbb VN VO JX JY hy hl2 hsl hcy hck
  go_upto_region 7 with fail
  have hb6 := aB wr (.cells #[.slice y.a1 y.n1 y.c1, .int .i64 (y.c.z : Int), .int .i64 (y.c.r : Int), .int .i64 (y.c.o : Int), .slice y.a2 y.n2 y.c2, .slice y.a3 y.n3 y.c3] 94)
  have K6 := bC wr #[.slice y.a1 y.n1 y.c1, .int .i64 (y.c.z : Int), .int .i64 (y.c.r : Int), .int .i64 (y.c.o : Int), .slice y.a2 y.n2 y.c2, .slice y.a3 y.n3 y.c3] 94
  have hs6 : wr.heap.size < (wr.alloc (.cells #[.slice y.a1 y.n1 y.c1, .int .i64 (y.c.z : Int), .int .i64 (y.c.r : Int), .int .i64 (y.c.o : Int), .slice y.a2 y.n2 y.c2, .slice y.a3 y.n3 y.c3] 94)).heap.size := by simp
  have HB6 := gO (Below.step lM.out hb6)
  have HC6 := gO (AP.out.below hb6)
  have HK6 := gO K6
  have k4 := K6 4
  simp only [gB, gC, gD] at k4
  clear hb6 K6 e0 e1 e2 e3 e4 e5 AP lM
  obtain ⟨we, rfl⟩ : ∃ we, we = wr := ⟨_, rfl⟩
  generalize we.alloc (.cells #[.slice y.a1 y.n1 y.c1, .int .i64 (y.c.z : Int), .int .i64 (y.c.r : Int), .int .i64 (y.c.o : Int), .slice y.a2 y.n2 y.c2, .slice y.a3 y.n3 y.c3] 94) = w6 at *
  obtain ⟨BC, ZQ⟩ : ∃ B, we.heap.size = B := ⟨_, rfl⟩
  rw [ZQ] at HK6 hs6 k4 ⊢
  clear ZQ
  go_wp2_with fail
  clear k4
  go_loopw [30] (fun s30 wr => ∃ (k' : Nat), k' ≤ y.n2 ∧ (i' = i → k' ≤ k) ∧ s30 = .int .i64 (k' : Int) ∧ Hid (Below w1.heap.size w1 wr) ∧ BC < wr.heap.size ∧ Hid (∀ o, wr.cell? ⟨BC, o, none⟩ = (#[.slice y.a1 y.n1 y.c1, .int .i64 (y.c.z : Int), .int .i64 (y.c.r : Int), .int .i64 (y.c.o : Int), .slice y.a2 y.n2 y.c2, .slice y.a3 y.n3 y.c3] : Array Value)[o]?)) (fun s30 _ => y.n2 - (intOf s30).toNat)
  case atStart => exact ⟨0, Nat.zero_le _, fun _ => Nat.zero_le _, rfl, HB6, hs6, HK6⟩
  case round =>
   obtain ⟨k', hkn, hkle, rfl, HBk, hsk, HKk⟩ := hrel
   clear HB6 hs6 HK6 HC6
   have hsr := HS.out.below HBk.out
   have RP := hsr.ca _ (gL hlt)
   rw [HY.out] at RP
   by_cases hkl : k' < y.n2
   ·have hki : (k' : Int) < y.n2 := by omega
    have hks : k' < y.c.sl.length := by rw [HL2.out]; exact hkl
    obtain ⟨sb, so, hsb, Gu, tK⟩ := aN aK (by decide) RP.r2 hks
    obtain ⟨n0, n1, n2⟩ := fA tK
    have hxp := (BD.out.sk _ (gL hks)).zX HK.out.hk
    have hxg : y.c.sl[k']? = some y.c.sl[k'] := gJ hks
    have HXN := gO (HON.out k' _ hxg)
    have aHS := gO RP
    have HXG := gO hxg
    generalize y.c.sl[k'] = x at *
    rw [hsb]
    have b9 := aB wr (.cells #[.int .i64 (x.p : Int), .int .i64 (x.n : Int), .int .i64 x.h] 137)
    have KX := bC wr #[.int .i64 (x.p : Int), .int .i64 (x.n : Int), .int .i64 x.h] 137
    have hs9 : wr.heap.size < (wr.alloc (.cells #[.int .i64 (x.p : Int), .int .i64 (x.n : Int), .int .i64 x.h] 137)).heap.size := by simp
    have HB9 := gO (Below.step HBk.out b9)
    have KC9 := aC HKk.out hsk b9
    have XM := gI hsk b9.size
    have m0 := KX 0
    have m1 := KX 1
    have m2 := KX 2
    have c0 := KC9 0
    have c1 := KC9 1
    have c2 := KC9 2
    have c3 := KC9 3
    have c4 := KC9 4
    have c5 := KC9 5
    simp only [gB, gC, gD] at m0 m1 m2 c0 c1 c2 c3 c4 c5
    rw [hsb] at c4
    have HKC9 := gO KC9
    have YA := gO KX
    have XO := gO (fun W => yU y.c y.a1 y.a2 y.a3 y.n1 y.c1 y.n2 y.c2 y.n3 y.c3 x.p a W BD.out.z.1 (gQ BD.out.rz (by decide)) (by omega) (by omega) (by omega))
    rw [hsb] at XO
    have VP := gO hsb
    clear tK hsr RP hks hxg KC9 KX hsb
    go_upto_region 10 with fail
    clear n0 n1 n2
    generalize (wr.alloc (.cells #[.int .i64 (x.p : Int), .int .i64 (x.n : Int), .int .i64 x.h] 137)) = w9 at *
    generalize wr.heap.size = BX at *
    by_cases he : i' = i ∧ k' = k
    ·obtain ⟨he1, he2⟩ := he
     obtain ⟨x', hx', RQ, XP⟩ := Yx.out he1
     have hxx : x' = x := by
      have h9 := HXG.out
      rw [he2, hx'] at h9
      exact gP h9
     subst hxx
     rw [RQ] at XO
     obtain ⟨l2, XQ, aBe, XR⟩ := (BD.out.sk x' (gM hx')).chain
     rw [XP] at XQ
     obtain rfl := gP XQ
     have hlb : ∀ b ∈ l, 0 ≤ b ∧ b ≤ 1000000 := fun b hb => by
      have h9 := jY BD.out.room (XR b hb)
      have h8 : y.c.o ≤ 2 := by rw [BD.out.o]; exact lD _
      have h7 : 2 ^ y.c.o ≤ 4 := by
       generalize y.c.o = o at *
       obtain rfl | rfl | rfl : o = 0 ∨ o = 1 ∨ o = 2 := by omega
       all_goals decide
      generalize 2 ^ y.c.o = q at *
      omega
     have aEg := (BD.out.sk x' (gM hx')).Jm
     have QE := BD.out.r64
     have hxn : x'.n ≤ 1000000 := by omega
     have hn1 : v.n1 ≤ 4096 := by rw [← HS.out.lw, HK.out.wl]; exact Nat.le_refl _
     have hlen : l.length ≤ 1000000 := by omega
     have QF : Hid (∀ W, Below w9.heap.size w9 W → Calls Tryz.prog 91 #[.agg #[.slice v.a1 v.n1 v.c1, .slice v.hc.az 2 v.hc.cz, .slice v.hc.am 2 v.hc.cm, .int .i64 s.h.aF, .slice v.hc.al v.hc.lc.length v.hc.cl, .slice v.hc.av s.h.live.length v.hc.cv, .slice (some ⟨bb, off, none⟩) v.ys.length v.c2], .agg #[.slice y.a1 y.n1 y.c1, .int .i64 y.c.z, .int .i64 y.c.r, .int .i64 y.c.o, .slice (some ⟨sb, so, none⟩) y.n2 y.c2, .slice y.a3 y.n3 y.c3], .agg #[.int .i64 x'.p, .int .i64 x'.n, .int .i64 x'.h]] W fun ev w' => ∃ (a' : Option Addr) (c' : Nat), ev = .returned (.tuple #[.slice a' l.length c', .bool true]) ∧ Row w' a' (l.map vI) ∧ Below W.heap.size W w') := fun W hW => by
      have h9 := zJ v.a1 v.hc.az v.hc.am v.hc.al v.hc.av (some ⟨bb, off, none⟩) v.n1 v.c1 v.hc.cz v.hc.cm v.hc.lc.length v.hc.cl s.h.live.length v.hc.cv v.ys.length v.c2 s.h.aF s.w y x' l W HS.out.lw hn1 ((HS.out.below (HB9.out.trans (hW.mono HB9.out.size))).rw) BD.out.z.1 (gQ BD.out.rz (by decide)) (by omega) XP aBe XR hlb hxn
      rw [VP.out] at h9
      exact h9
     have hnc : oL l a = false := by
      unfold oL
      rw [← Bool.not_eq_true, List.contains_iff_mem]
      exact EK.out
     have HNC := gO hnc
     have k0' := (HB9.out.cell (p := ⟨w.heap.size, 0, none⟩) hsz)
     have hcells : Hid (∀ W, Below w9.heap.size w9 W → ∀ o, W.cell? ⟨w.heap.size, o, none⟩ = (#[.slice v.a1 v.n1 v.c1, .slice v.hc.az 2 v.hc.cz, .slice v.hc.am 2 v.hc.cm, .int .i64 (s.h.aF : Int), .slice v.hc.al v.hc.lc.length v.hc.cl, .slice v.hc.av s.h.live.length v.hc.cv, .slice v.a2 v.ys.length v.c2] : Array Value)[o]?) := fun W hW => aC HK0.out hsz (HB9.out.trans (hW.mono HB9.out.size))
     have CS := gO hlen
     clear k0' hnc hlb aBe XR aEg QE XP hx' RQ HXN HXG Yx HON hlen
     go_upto_region 11 with (go_at_call 90; refine (XO.out _).mono ?_; rintro ev w10 ⟨rfl, rU⟩)
     have K10 := hcells.out w10 rU
     have KC10 := aC HKC9.out XM rU
     have KX10 := aC YA.out hs9 rU
     clear m0 m1 m2 c0 c1 c2 c3 c4 c5 XQ
     have p0 := K10 0
     have p1 := K10 1
     have p2 := K10 2
     have p3 := K10 3
     have p4 := K10 4
     have p5 := K10 5
     have p6 := K10 6
     have c0 := KC10 0
     have c1 := KC10 1
     have c2 := KC10 2
     have c3 := KC10 3
     have c4 := KC10 4
     have c5 := KC10 5
     have m0 := KX10 0
     have m1 := KX10 1
     have m2 := KX10 2
     simp only [gB, gC, gD] at p0 p1 p2 p3 p4 p5 p6 c0 c1 c2 c3 c4 c5 m0 m1 m2
     rw [HA.out] at p6
     rw [VP.out] at c4
     have HC11 := gO (QF.out w10 rU)
     have HB10 := gO (Below.step HB9.out rU)
     have hi0 : (i' : Int) = i := by omega
     have hk0 : (k' : Int) = k := by omega
     have HI0 := gO hi0
     have aHU := gO hk0
     clear K10 KC10 KX10 rU HKC9 YA HB9 XO QF hcells hi0 hk0 he1 he2
     go_upto_region 12 with (go_at_call 91; refine HC11.out.mono ?_; rintro ev w11 ⟨a', c', rfl, hrow, EG⟩)
     have Jo := gO (fM a' c' l a w11 (by have := CS.out; omega) hrow)
     rw [HNC.out] at Jo
     clear p0 p1 p2 p3 p4 p5 p6 c0 c1 c2 c3 c4 c5 m0 m1 m2 hrow
     go_wp2_with (go_at_call 35; refine Jo.out.mono ?_; rintro ev w12 ⟨rfl, rfl⟩)
     exact bodyPost_ret (v := .tuple #[.int .i64 (i : Int), .int .i64 (k : Int), .int .i64 0]) (by simp [results, Tryz.results43, go_sem]) rfl ⟨rfl, Below.step HB.out (Below.step HB10.out EG)⟩
    ·have RQ := HXN.out he
     rw [RQ] at XO
     clear RQ
     go_upto_region 15 with (go_at_call 90; refine (XO.out _).mono ?_; rintro ev w10 ⟨rfl, rU⟩)
     have HB10 := gO (Below.step HB9.out rU)
     have HK10 := gO (aC HKC9.out XM rU)
     have aBf := gI XM rU.size
     have hke : i' = i → k' + 1 ≤ k := fun h9 => by
      have := hkle h9
      have : k' ≠ k := fun h8 => he ⟨h9, h8⟩
      omega
     have HKE := gO hke
     clear m0 m1 m2 c0 c1 c2 c3 c4 c5 rU HKC9 YA HB9 XO hke hkle he
     go_wp2
     go_roundw
     case rel => exact ⟨k' + 1, by omega, HKE.out, by go_num, HB10, aBf, (by rw [VP.out] at HK10; exact HK10)⟩
     case measure => simp [intOf]; omega
   ·obtain rfl : k' = y.n2 := by omega
    have hne : i' ≠ i := fun h9 => by
     obtain ⟨x, hx, _⟩ := Yx.out h9
     have h8 := (List.getElem?_eq_some_iff.1 hx).1
     have h7 := hkle h9
     have h6 := HL2.out
     omega
    have hii : i' + 1 ≤ i := by omega
    clear hsr RP hkle hne
    go_wp2
    go_roundw
    case rel => exact ⟨i' + 1, hii, by go_num, HBk⟩
    case measure => simp [intOf]; omega
end
section
open Go.RowKit

def aBg (s' : Sy) (w : World) (ev : Ending) (w' : World) : Prop := ∃ v', ev = .returned (.tuple #[.agg (v'.vals s'), .int .i64 0]) ∧ kH w' w.heap.size s' v' ∧ Below w.heap.size w w'
set_option maxHeartbeats 8000000 in
set_option maxRecDepth 100000 in
theorem RS (v : Sc) (s : Sy) (n : List UInt8) (cpu i k a : Nat) (c : Ca) (x : Sl) (w : World) (hs : rP w v s) (hk : fC s) (hf : ∀ c ∈ s.cs, c.ns.length ≤ 1000) (hi : s.named n = some i) (fH : cpu < s.h.aF) (hci : s.cs[i]? = some c) (hcx : c.sl[k]? = some x) (hout : lG s.w c x a) :
  Calls Tryz.prog 33 #[.agg #[.slice v.a1 v.n1 v.c1, .slice v.hc.az 2 v.hc.cz, .slice v.hc.am 2 v.hc.cm, .int .i64 (s.h.aF : Int), .slice v.hc.al v.hc.lc.length v.hc.cl, .slice v.hc.av s.h.live.length v.hc.cv, .slice v.a2 v.ys.length v.c2], .string ⟨n.toArray⟩, .int .i64 cpu, .int .i64 a] w (aBg (s.free i k a cpu) w) := by
 obtain ⟨sF, Ic⟩ : ∃ sF, s.free i k a cpu = sF := ⟨_, rfl⟩
 rw [Ic]
 have HsF := gO Ic
 clear Ic
 obtain ⟨K1, K2, F1, F2, hsz, hbw⟩ := boxes2 w #[.slice v.a1 v.n1 v.c1, .slice v.hc.az 2 v.hc.cz, .slice v.hc.am 2 v.hc.cm, .int .i64 (s.h.aF : Int), .slice v.hc.al v.hc.lc.length v.hc.cl, .slice v.hc.av s.h.live.length v.hc.cv, .slice v.a2 v.ys.length v.c2] 47 #[.slice none 0 0, .slice none 0 0, .slice none 0 0, .int .i64 0, .slice none 0 0, .slice none 0 0, .slice none 0 0] 47
 obtain ⟨hil, hic⟩ := List.getElem?_eq_some_iff.1 hci
 obtain ⟨hkl, hkx⟩ := List.getElem?_eq_some_iff.1 hcx
 have hcm := gM hci
 have hxm := gM hcx
 have hck := hk.ck c hcm
 have hs1 := hs.below hbw
 have HA := gO (Eh v s n cpu i _ hs1 hk hf hi fH)
 obtain ⟨l, hl1, hl2, hl3⟩ := (hck.sk x hxm).chain
 have aBh : Hid (∀ (v1 : Sc) (W : World), rP W v1 s → Calls Tryz.prog 43 #[.agg #[.slice v1.a1 v1.n1 v1.c1, .slice v1.hc.az 2 v1.hc.cz, .slice v1.hc.am 2 v1.hc.cm, .int .i64 (s.h.aF : Int), .slice v1.hc.al v1.hc.lc.length v1.hc.cl, .slice v1.hc.av s.h.live.length v1.hc.cv, .slice v1.a2 v1.ys.length v1.c2], .int .i64 a] W fun ev w' => ev = .returned (.tuple #[.int .i64 i, .int .i64 k, .int .i64 0]) ∧ Below W.heap.size W w') := fun v1 W h => by
  subst hic
  exact JW v1 s i k a l W h hk hf hil hkl (by rw [hkx]; exact hout.1) (by rw [hkx]; exact hl1) (hout.2 l hl1)
 have hpush := hk.push hci hcx hout
 have hpe := LW (a := a) hci hcx
 have hxb : -1 ≤ x.h ∧ x.h < 4096 := by
  have h9 := gW.1 hl1
  cases l with
  | nil => have : x.h = -1 := h9.1; omega
  | cons b m =>
   have e : x.h = b := h9.1.1
   have h8 := h9.2.1 b (by simp)
   rw [hk.wl] at h8
   omega
 have hal : a < 4096 := by
  have h1 := jY hck.room hout.1
  obtain ⟨b, hb, hb1, hb2⟩ := (hck.sk x hxm).live
  obtain ⟨_, _, h4, h5⟩ := (hk.hk.lv b hb).1
  have hor : c.o ≤ 2 := by rw [hck.o]; exact lD _
  rw [hb1, hb2] at h5
  rw [hb1] at h4
  generalize c.o = o at *
  obtain rfl | rfl | rfl : o = 0 ∨ o = 1 ∨ o = 2 := by omega
  ·simp only [Nat.pow_zero] at h1; omega
  ·simp only [Nat.pow_one] at h1 h5; omega
  ·have e4 : (2 : Nat) ^ 2 = 4 := rfl
   rw [e4] at h1 h5
   omega
 have hxn : x.n ≤ 64 := gQ (hck.sk x hxm).Jm hck.r64
 have hxp := (hck.sk x hxm).zX hk.hk
 have aEh : a < s.w.length := by rw [hk.wl]; exact hal
 obtain ⟨k0, k1, k2, k3, k4, k5, k6⟩ := gA7 K1
 have HK := gO hk
 have qL := gO hck
 have HB1 := gO hbw
 have HK1 := gO K1
 have HF1 := gO F1
 have HK2 := gO K2
 have HF2 := gO F2
 have HP := gO hpush
 have HPE := gO hpe
 have EU := gO hci
 have VI := gO hcx
 have Lp := fH
 have aD9 := hk.cl
 have aEa := hck.kT hk.hk
 have hwl := hk.wl
 clear hs hk hf hi hs1 K1 K2 F1 F2 hbw hpush hpe hci hcx hout hl1 hl2 hl3 hck hic hkx hcm hxm
 go_enter Tryz.func33, Tryz.ntmps33
 go_upto_region 1 with fail
 generalize (w.alloc (.cells #[.slice v.a1 v.n1 v.c1, .slice v.hc.az 2 v.hc.cz, .slice v.hc.am 2 v.hc.cm, .int .i64 (s.h.aF : Int), .slice v.hc.al v.hc.lc.length v.hc.cl, .slice v.hc.av s.h.live.length v.hc.cv, .slice v.a2 v.ys.length v.c2] 47)).alloc (.cells #[.slice none 0 0, .slice none 0 0, .slice none 0 0, .int .i64 0, .slice none 0 0, .slice none 0 0, .slice none 0 0] 47) = w1 at *
 have hsz1 : w.heap.size < w1.heap.size := by omega
 go_upto_region 4 with (go_at_call 71; refine HA.out.mono ?_; rintro ev w2 ⟨v1, he, hnew, hb2⟩; unfold Ud Sc.vals at he; subst he; have K12 := aC HK1.out hsz1 hb2; have F12 := aJ HF1.out hsz1 hb2; obtain ⟨y0, y1, y2, y3, y4, y5, y6⟩ := gA7 K12; obtain ⟨f0, f1, f2, f3, f4, f5, f6⟩ := gF7 F12; skip)
 have qU := laid7 (T := w.heap.size + 1) HB1.out (Nat.lt_succ_self _) hsz HK1.out HF1.out HK2.out HF2.out hb2 hnew
 have HS3 := gO qU.1
 have HT3 := gO qU.2.1
 have HU3 := gO qU.2.2.1
 have HB3 := gO qU.2.2.2
 have ht2 : w.heap.size + 1 < w2.heap.size := gI hsz hb2.size
 have ht3 : w.heap.size + 1 < (((((((w2.setCell ⟨w.heap.size, 0, none⟩ (.slice v1.a1 v1.n1 v1.c1)).setCell ⟨w.heap.size, 1, none⟩ (.slice v1.hc.az 2 v1.hc.cz)).setCell ⟨w.heap.size, 2, none⟩ (.slice v1.hc.am 2 v1.hc.cm)).setCell ⟨w.heap.size, 3, none⟩ (.int .i64 (s.h.aF : Int))).setCell ⟨w.heap.size, 4, none⟩ (.slice v1.hc.al v1.hc.lc.length v1.hc.cl)).setCell ⟨w.heap.size, 5, none⟩ (.slice v1.hc.av s.h.live.length v1.hc.cv)).setCell ⟨w.heap.size, 6, none⟩ (.slice v1.a2 v1.ys.length v1.c2)).heap.size := by simpa using ht2
 clear K12 F12 y0 y1 y2 y3 y4 y5 y6 f0 f1 f2 f3 f4 f5 f6 qU hnew HA k0 k1 k2 k3 k4 k5 k6 HK1 HF1 HK2 HF2 hb2 ht2 HB1
 generalize ((((((w2.setCell ⟨w.heap.size, 0, none⟩ (.slice v1.a1 v1.n1 v1.c1)).setCell ⟨w.heap.size, 1, none⟩ (.slice v1.hc.az 2 v1.hc.cz)).setCell ⟨w.heap.size, 2, none⟩ (.slice v1.hc.am 2 v1.hc.cm)).setCell ⟨w.heap.size, 3, none⟩ (.int .i64 (s.h.aF : Int))).setCell ⟨w.heap.size, 4, none⟩ (.slice v1.hc.al v1.hc.lc.length v1.hc.cl)).setCell ⟨w.heap.size, 5, none⟩ (.slice v1.hc.av s.h.live.length v1.hc.cv)).setCell ⟨w.heap.size, 6, none⟩ (.slice v1.a2 v1.ys.length v1.c2) = w3 at *
 clear hsz hsz1
 obtain ⟨g0, g1, g2, g3, g4, g5, g6⟩ := gA7 HS3.out.k
 go_upto_region 7 with (go_at_call 43; refine (aBh.out v1 w3 HS3.out.r.at).mono ?_; rintro ev w4 ⟨rfl, hb4⟩)
 have HS4 := gO (HS3.out.below hb4)
 have HT4 := gO (aC HT3.out ht3 hb4)
 have HU4 := gO (aJ HU3.out ht3 hb4)
 have HB4 := gO (Below.step HB3.out hb4)
 have ht4 := gI ht3 hb4.size
 clear g0 g1 g2 g3 g4 g5 g6 hb4 HS3 HT3 HU3 HB3 ht3 aBh
 have hi1 : i < v1.ys.length := by
  have h := congrArg List.length HS4.out.r.cy
  simp only [List.length_map] at h
  omega
 have hvl : v1.ys.length ≤ 20 := by
  have h := congrArg List.length HS4.out.r.cy
  simp only [List.length_map] at h
  omega
 have Vt : v1.ys[i].c = c := by
  have h1 := congrArg (·[i]?) HS4.out.r.cy
  simp only [List.getElem?_map, gJ hi1, Option.map_some] at h1
  rw [EU.out] at h1
  exact gP h1
 obtain ⟨gc, ha2, kU, Ej, Jv, hcc⟩ := HS4.out.r.KH hi1
 obtain ⟨hr1, hr2, hr3⟩ := HS4.out.r.y (gL hi1)
 obtain ⟨y, hy⟩ : ∃ y, v1.ys[i] = y := ⟨_, rfl⟩
 have HY := gO hy
 rw [hy] at hcc hr2 hr3 Vt
 subst Vt
 obtain ⟨hks, hkx⟩ := List.getElem?_eq_some_iff.1 VI.out
 have hcell : ∀ j, j < 3 → ∃ g, y.a2 = some ⟨g, 0, none⟩ ∧ g < w4.heap.size ∧ w4.cell? ⟨g, k * 3 + j, none⟩ = (aX x)[j]? ∧ w4.frozen? ⟨g, k * 3 + j, none⟩ = false := fun j hj => by
  have hlen : k * 3 + j < (flat aX y.c.sl).length := by rw [flat_length aK]; omega
  obtain ⟨g, h1, _, h2, h3, h4⟩ := lJ hr2 (k * 3 + j) hlen
  refine ⟨g, h1, h2, ?_, h4⟩
  rw [h3, ← hkx, ← flat_get aK y.c.sl k hks j hj]
  exact (gJ hlen).symm
 obtain ⟨gs, hgs, Gx, s0, p0⟩ := hcell 0 (by decide)
 obtain ⟨gs1, Gg, _, s1, p1⟩ := hcell 1 (by decide)
 obtain ⟨gs2, Bl, _, s2, p2⟩ := hcell 2 (by decide)
 obtain rfl : gs = gs1 := by rw [hgs] at Gg; simpa using Gg
 obtain rfl : gs = gs2 := by rw [hgs] at Bl; simpa using Bl
 simp only [aX, vI, gC, gD, Nat.add_zero] at s0 s1 s2
 obtain ⟨gw, hgw, aBi, aHW, aHX, hwc, hwf⟩ := HS4.out.r.wAt aEh
 have hws : gs ≠ gw := fun e => HS4.out.r.aAR hi1 hy hgw (by unfold kS; rw [hgs, e]; rfl)
 have b4 := (hcc 4 (by decide)).1
 simp only [bV, vI, gC, gD] at b4
 rw [hgs] at b4
 have g6 := HS4.out.k 6
 have g0 := HS4.out.k 0
 unfold Sc.vals at g0 g6
 simp only [gB, gC, gD] at g0 g6
 rw [ha2] at g6
 rw [hgw] at g0
 have hl2 : y.c.sl.length = y.n2 := aZ aK (by decide) hr2
 have hl3 : y.c.ac.length = y.n3 := by have := hr3.1; unfold nS at this; simpa using this
 have hkn : (k : Int) < y.n2 := by omega
 have hii : (i : Int) < v1.ys.length := by omega
 have hn1 : v1.n1 = 4096 := by rw [← HS4.out.r.at.lw, hwl]
 have han : (a : Int) < v1.n1 := by omega
 have SI := gO hi1
 have HA2 := gO ha2
 have Um := gO hgs
 have HGW := gO hgw
 have YA := gO hkx
 have HL2 := gO hl2
 have HL3 := gO hl3
 have HKS := gO hks
 clear hcell Gg Bl hcc hy hr1 hr2 hr3 hkx hgs hgw ha2 hl2 hl3 hwl hn1
 go_upto_region 9 with fail
 have hd := (Below.refl w4.heap.size w4).drew
 have HS5 := gO (HS4.out.below hd)
 have HT5 := gO (aC HT4.out ht4 hd)
 have HU5 := gO (aJ HU4.out ht4 hd)
 have HB5 := gO (Below.step HB4.out hd)
 have ht5 := gI ht4 hd.size
 have s0' := (hd.cell (p := ⟨gs, k * 3, none⟩) Gx).trans s0
 have s1' := (hd.cell (p := ⟨gs, k * 3 + 1, none⟩) Gx).trans s1
 have s2' := (hd.cell (p := ⟨gs, k * 3 + 2, none⟩) Gx).trans s2
 have p1' := (hd.frozen (p := ⟨gs, k * 3 + 1, none⟩) Gx).trans p1
 have p2' := (hd.frozen (p := ⟨gs, k * 3 + 2, none⟩) Gx).trans p2
 have hwc' := (hd.cell (p := ⟨gw, a, none⟩) aBi).trans hwc
 have hwf' := (hd.frozen (p := ⟨gw, a, none⟩) aBi).trans hwf
 go_still_tail 8, (by kernel_rfl)
 change wpList _ _ _ _ _ w4.drew
 have HGC4 := gO (show gc < w4.drew.heap.size from gI kU hd.size)
 clear s0 s1 s2 p0 p1 p2 hwc hwf hd HS4 HT4 HU4 HB4 ht4 g0 g6 b4 kU
 generalize w4.drew = w5 at *
 have hpush := HS5.out.aAQ SI.out HY.out Um.out HKS.out HGW.out a x.h (a : Int) (n' := x.n + 1)
 rw [YA.out] at hpush
 rw [← HPE.out] at hpush
 have hxx : ((x.n + 1 : Nat) : Int) = (x.n : Int) + 1 := by omega
 unfold vI at hpush
 rw [hxx] at hpush
 have WZ := gO hpush
 clear hpush hxx
 go_upto_region 12 with fail
 have hsafe := WZ.out.2
 have HS6 := gO WZ.out.1
 have HT6 := gO (hsafe.box HT5.out ht5 (.inr rfl))
 have HU6 := gO (hsafe.Pg HU5.out ht5 (.inr rfl))
 have ht6 := gI ht5 hsafe.size
 have HB6 : Hid (Below w.heap.size w _) := Safe.after HB5.out hsafe (fun k hk => .inl hk) HB5.out.size
 clear hsafe WZ HT5 HU5 ht5 HB5 HS5 s0' s1' s2' p1' p2' hwc' hwf' HGC4
 generalize (((w5.setCell ⟨gw, a, none⟩ (.int .i64 x.h)).setCell ⟨gs, k * 3 + 2, none⟩ (.int .i64 (a : Int))).setCell ⟨gs, k * 3 + 1, none⟩ (.int .i64 ((x.n : Int) + 1))) = w6 at *
 obtain ⟨y', hy'⟩ : ∃ y' : Cc, y' = { y with c := { y.c with sl := y.c.sl.set k ⟨x.p, x.n + 1, (a : Int)⟩ } } := ⟨_, rfl⟩
 obtain ⟨v2, hv2⟩ : ∃ v2, v2 = v1.dI i y' := ⟨_, rfl⟩
 obtain ⟨x', hx'⟩ : ∃ x' : Sl, x' = ⟨x.p, x.n + 1, (a : Int)⟩ := ⟨_, rfl⟩
 have hi2 : i < v2.ys.length := by rw [hv2]; unfold Sc.dI; simpa using SI.out
 have Yp : v2.ys[i] = y' := by subst hv2; simp [Sc.dI]
 have hva : v2.a2 = some ⟨gc, 0, none⟩ := by rw [hv2]; exact HA2.out
 have hya : y'.a2 = some ⟨gs, 0, none⟩ := by rw [hy']; exact Um.out
 have hyn : y'.n2 = y.n2 := by rw [hy']
 have EH : Hid (SS w6 w.heap.size (fun k => k < w.heap.size ∨ k = w.heap.size + 1) (s.push i k a) v2) := by
  unfold Hid
  rw [hv2, hy']
  exact HS6.out
 have HK6 := gO HP.out.1
 have hc6 : (s.push i k a).cs[i]? = some y'.c := by rw [HP.out.2.2, hy']
 have hx6 : y'.c.sl[k]? = some x' := by
  rw [hy', hx']
  show (y.c.sl.set k _)[k]? = _
  rw [List.getElem?_set_self HKS.out]
 have aBk : (s.push i k a).h.aF = s.h.aF := by rw [HPE.out]
 obtain ⟨s1, hs1⟩ : ∃ s1, s.push i k a = s1 := ⟨_, rfl⟩
 have vZ : Hid (s.free i k a cpu = if s1.spare i k then s1.discard i k cpu else s1) := by
  unfold Hid Sy.free
  rw [hs1]
 rw [hs1] at EH HK6 hc6 aBk
 have aBl : cpu < s1.h.aF := by omega
 have hsp : s1.spare i k = (y'.c.idle x' && decide (1 < (y'.c.sl.filter y'.c.idle).length)) := by
  unfold Sy.spare Ca.spare
  rw [hc6]
  simp only [hx6]
 have HCK6 := gO (HK6.out.ck _ (gM hc6))
 have AP := gO (EH.out.r.at.ca y' (by rw [← Yp]; exact gL hi2))
 have hn2 : y'.n2 ≤ 256 := by
  have h1 := AP.out.l2
  have h2 := HCK6.out.kT HK6.out.hk
  omega
 have hn3 : y'.n3 ≤ 1000 := by
  have h1 := AP.out.l3
  have h2 := HCK6.out.ac
  have h3 := HK6.out.hk.cp.2
  omega
 have aHZ : v2.ys.length ≤ 20 := by rw [hv2]; unfold Sc.dI; simpa using hvl
 have hii2 : (i : Int) < v2.ys.length := by omega
 have hkn2 : (k : Int) < y'.n2 := by rw [hyn]; exact hkn
 obtain ⟨gc2, JA, Ah, _, _, nO⟩ := EH.out.r.KH hi2
 obtain rfl : gc = gc2 := by rw [hva] at JA; simpa using JA
 rw [Yp] at nO
 have b0 := (nO 0 (by decide)).1
 have b1 := (nO 1 (by decide)).1
 have b2 := (nO 2 (by decide)).1
 have b3 := (nO 3 (by decide)).1
 have b4 := (nO 4 (by decide)).1
 have b5 := (nO 5 (by decide)).1
 simp only [bV, vI, gC, gD, Nat.add_zero] at b0 b1 b2 b3 b4 b5
 rw [hya] at b4
 have aBm : k < y'.c.sl.length := (List.getElem?_eq_some_iff.1 hx6).1
 have aBn : y'.c.sl[k] = x' := (List.getElem?_eq_some_iff.1 hx6).2
 obtain ⟨sb, so, hsb, Gu, tK⟩ := aN aK (by decide) AP.out.r2 aBm
 rw [hya] at hsb
 obtain ⟨rfl, rfl⟩ : sb = gs ∧ so = 0 := by simpa [eq_comm] using hsb
 obtain ⟨e0, e1, e2⟩ := fA tK
 rw [aBn] at e0 e1 e2
 simp only [Nat.zero_add] at e0 e1 e2
 have L0 : ∀ W, Below w6.heap.size w6 W → W.cell? ⟨gc, i * 6, none⟩ = some (.slice y'.a1 y'.n1 y'.c1) := fun W h => (h.cell (p := ⟨gc, i * 6, none⟩) Ah).trans b0
 have L1 : ∀ W, Below w6.heap.size w6 W → W.cell? ⟨gc, i * 6 + 1, none⟩ = some (.int .i64 (y'.c.z : Int)) := fun W h => (h.cell (p := ⟨gc, i * 6 + 1, none⟩) Ah).trans b1
 have L2 : ∀ W, Below w6.heap.size w6 W → W.cell? ⟨gc, i * 6 + 2, none⟩ = some (.int .i64 (y'.c.r : Int)) := fun W h => (h.cell (p := ⟨gc, i * 6 + 2, none⟩) Ah).trans b2
 have L3 : ∀ W, Below w6.heap.size w6 W → W.cell? ⟨gc, i * 6 + 3, none⟩ = some (.int .i64 (y'.c.o : Int)) := fun W h => (h.cell (p := ⟨gc, i * 6 + 3, none⟩) Ah).trans b3
 have L4 : ∀ W, Below w6.heap.size w6 W → W.cell? ⟨gc, i * 6 + 4, none⟩ = some (.slice (some ⟨sb, 0, none⟩) y'.n2 y'.c2) := fun W h => (h.cell (p := ⟨gc, i * 6 + 4, none⟩) Ah).trans b4
 have L5 : ∀ W, Below w6.heap.size w6 W → W.cell? ⟨gc, i * 6 + 5, none⟩ = some (.slice y'.a3 y'.n3 y'.c3) := fun W h => (h.cell (p := ⟨gc, i * 6 + 5, none⟩) Ah).trans b5
 have Ie : Hid (∀ (z : Sl) W, Below w6.heap.size w6 W → Calls Tryz.prog 73 #[.agg #[.slice y'.a1 y'.n1 y'.c1, .int .i64 y'.c.z, .int .i64 y'.c.r, .int .i64 y'.c.o, .slice (some ⟨sb, 0, none⟩) y'.n2 y'.c2, .slice y'.a3 y'.n3 y'.c3], .agg #[.int .i64 z.p, .int .i64 z.n, .int .i64 z.h]] W fun ev w' => ev = .returned (.bool (y'.c.idle z)) ∧ Below W.heap.size W w') := fun z W hW => by
  have h := Rw y' z W AP.out.l3 hn3 (AP.out.r3.below hW)
  rw [hya] at h
  exact h
 have HID1 := gO (Ie.out x')
 have IU := gO hsp
 have HHI2 := gO hi2
 have HVI := gO Yp
 have HYA := gO hya
 have XT := gO AP.out.l2
 have LS0 : ∀ W, Below w6.heap.size w6 W → W.cell? ⟨sb, k * 3, none⟩ = some (.int .i64 (x'.p : Int)) := fun W h => (h.cell (p := ⟨sb, k * 3, none⟩) Gu).trans e0
 have LS1 : ∀ W, Below w6.heap.size w6 W → W.cell? ⟨sb, k * 3 + 1, none⟩ = some (.int .i64 (x'.n : Int)) := fun W h => (h.cell (p := ⟨sb, k * 3 + 1, none⟩) Gu).trans e1
 have LS2 : ∀ W, Below w6.heap.size w6 W → W.cell? ⟨sb, k * 3 + 2, none⟩ = some (.int .i64 x'.h) := fun W h => (h.cell (p := ⟨sb, k * 3 + 2, none⟩) Gu).trans e2
 obtain ⟨bi, hbi⟩ : ∃ bi, y'.c.idle x' = bi := ⟨_, rfl⟩
 rw [hbi] at hsp HID1 IU
 have QV := gO hbi
 have HL0 := gO L0
 have HL1 := gO L1
 have HL2 := gO L2
 have HL3 := gO L3
 have HL4 := gO L4
 have HL5 := gO L5
 have aH2 := gO Gu
 clear hsp hbi b0 b1 b2 b3 b4 b5 e0 e1 e2 Yp hva hya hyn hc6 hx6 nO aBm aBn hsb tK hv2 hy' hx' HS6 HP HPE EU VI qL HY YA hs1 JA aBk hvl hii hkn SI HKS hkl hks hil
 go_cut [81] (fun s81 wx => s81 = .bool bi ∧ Hid (Below w6.heap.size w6 wx))
 case first =>
  go_region_held3 (fun W => Below w6.heap.size w6 W) ((repeat (first | with_reducible assumption | with_reducible exact Below.refl _ _ | with_reducible refine Below.setCell ?_ ?_ _ | with_reducible apply Below.drew | with_reducible refine Below.step ?_ (aB _ _) | with_reducible refine Below.step ?_ (by with_reducible assumption) | (simp only; omega))))(first | (go_at_call 73; refine (HID1.out _ (by with_reducible assumption)).mono ?_; rintro ev w7 ⟨rfl, hb7⟩))
  all_goals
   go_wp2_with fail
   go_meet
   exact ⟨by first | rfl | trivial, by assumption⟩
 case rest =>
  obtain ⟨rfl, HB7⟩ := hcut
  obtain ⟨w7, rfl⟩ : ∃ w7, w7 = wc := ⟨_, rfl⟩
  clear L0 L1 L2 L3 L4 L5 LS0 LS1 LS2 HID1
  have HB67 := gO (HB6.out.trans (HB7.out.mono (gR (Nat.lt_of_succ_lt ht6))))
  cases bi with
  | false =>
   have Ic : sF = s1 := by
    rw [← HsF.out, vZ.out, IU.out]
    rfl
   subst Ic
   have jK := gO (EH.out.below HB7.out)
   have iT := gO (aC HT6.out ht6 HB7.out)
   have yG := gO (aJ HU6.out ht6 HB7.out)
   have yH := HB67
   clear EH HT6 HU6 HB7 HB67 Ie IU vZ HL0 HL1 HL2 HL3 HL4 HL5
   have z0 := jK.out.k 0
   have z1 := jK.out.k 1
   have z2 := jK.out.k 2
   have z3 := jK.out.k 3
   have z4 := jK.out.k 4
   have z5 := jK.out.k 5
   have z6 := jK.out.k 6
   unfold Sc.vals at z0 z1 z2 z3 z4 z5 z6
   have q0 := iT.out 0
   have q1 := iT.out 1
   have q2 := iT.out 2
   have q3 := iT.out 3
   have q4 := iT.out 4
   have q5 := iT.out 5
   have q6 := iT.out 6
   obtain ⟨f0, f1, f2, f3, f4, f5, f6⟩ := gF7 yG.out
   simp only [gB, gC, gD] at z0 z1 z2 z3 z4 z5 z6 q0 q1 q2 q3 q4 q5 q6
   have fZ := out7 jK.out (T := w.heap.size + 1) (.inr rfl) (fun k hk => .inl hk) (Nat.lt_succ_self _) iT.out yH.out
   have KX := fZ.1
   have qJ := gO fZ.2.1
   have lI := gO fZ.2.2
   clear fZ jK iT yG yH
   go_wp2_with fail
   generalize ((((((w7.setCell ⟨w.heap.size + 1, 0, none⟩ (.slice v2.a1 v2.n1 v2.c1)).setCell ⟨w.heap.size + 1, 1, none⟩ (.slice v2.hc.az 2 v2.hc.cz)).setCell ⟨w.heap.size + 1, 2, none⟩ (.slice v2.hc.am 2 v2.hc.cm)).setCell ⟨w.heap.size + 1, 3, none⟩ (.int .i64 (sF.h.aF : Int))).setCell ⟨w.heap.size + 1, 4, none⟩ (.slice v2.hc.al v2.hc.lc.length v2.hc.cl)).setCell ⟨w.heap.size + 1, 5, none⟩ (.slice v2.hc.av sF.h.live.length v2.hc.cv)).setCell ⟨w.heap.size + 1, 6, none⟩ (.slice v2.a2 v2.ys.length v2.c2) = wx at *
   exact bodyPost_ret (v := .tuple #[.agg #[.slice v2.a1 v2.n1 v2.c1, .slice v2.hc.az 2 v2.hc.cz, .slice v2.hc.am 2 v2.hc.cm, .int .i64 (sF.h.aF : Int), .slice v2.hc.al v2.hc.lc.length v2.hc.cl, .slice v2.hc.av sF.h.live.length v2.hc.cv, .slice v2.a2 v2.ys.length v2.c2], .int .i64 0]) (by simp [results, Tryz.results33, go_sem, KX]) rfl (⟨v2, rfl, qJ.out, lI.out⟩)

  | true =>
   have b4 := HL4.out w7 HB7.out
   go_wp2_with fail
   clear b4
   go_loopw [16, 87] (fun s16 s87 wr => ∃ (j q : Nat), j ≤ y'.n2 ∧ s87 = .int .i64 (j : Int) ∧ s16 = .int .i64 (q : Int) ∧ q ≤ j ∧ Hid (((y'.c.sl.take j).filter y'.c.idle).length = q) ∧ Hid (Below w6.heap.size w6 wr)) (fun s16 s87 _ => y'.n2 - (intOf s87).toNat)
   case atStart => exact ⟨0, 0, Nat.zero_le _, rfl, rfl, Nat.zero_le _, rfl, HB7⟩
   case round =>
    obtain ⟨j, q, hjn, rfl, rfl, hqj, HQ, lM⟩ := hrel
    by_cases hlt : j < y'.n2
    ·have hji : (j : Int) < y'.n2 := by omega
     have hjs : j < y'.c.sl.length := by have := XT.out; omega
     obtain ⟨sb2, so2, XU, aF1, VQ⟩ := aN aK (by decide) (AP.out.r2.below lM.out) hjs
     rw [HYA.out] at XU
     obtain ⟨rfl, rfl⟩ : sb = sb2 ∧ so2 = 0 := by simpa [eq_comm] using XU
     obtain ⟨n0, n1, n2⟩ := fA VQ
     simp only [Nat.zero_add] at n0 n1 n2
     have HZ : Hid ((((y'.c.sl.take (j + 1)).filter y'.c.idle).length : Nat) = q + (if y'.c.idle y'.c.sl[j] then 1 else 0)) := by
      unfold Hid
      rw [List.take_succ_eq_append_getElem hjs, List.filter_append, List.length_append, HQ.out]
      congr 1
      by_cases h : y'.c.idle y'.c.sl[j] = true <;> simp [h]
     have HI := gO (Ie.out y'.c.sl[j])
     generalize y'.c.sl[j] = z at *
     have b9 := aB wr (.cells #[.int .i64 (z.p : Int), .int .i64 (z.n : Int), .int .i64 z.h] 137)
     have KX := bC wr #[.int .i64 (z.p : Int), .int .i64 (z.n : Int), .int .i64 z.h] 137
     have hs9 : wr.heap.size < (wr.alloc (.cells #[.int .i64 (z.p : Int), .int .i64 (z.n : Int), .int .i64 z.h] 137)).heap.size := by simp
     have HB9 := gO (Below.step lM.out b9)
     have m0 := KX 0
     have m1 := KX 1
     have m2 := KX 2
     simp only [gB, gC, gD] at m0 m1 m2
     clear KX b9 VQ XU
     go_upto_region 17 with fail
     clear n0 n1 n2
     generalize (wr.alloc (.cells #[.int .i64 (z.p : Int), .int .i64 (z.n : Int), .int .i64 z.h] 137)) = w9 at *
     generalize wr.heap.size = BX at *
     have L0 : ∀ W, Below w9.heap.size w9 W → W.cell? ⟨gc, i * 6, none⟩ = some (.slice y'.a1 y'.n1 y'.c1) := fun W h => HL0.out W (HB9.out.trans (h.mono HB9.out.size))
     have L1 : ∀ W, Below w9.heap.size w9 W → W.cell? ⟨gc, i * 6 + 1, none⟩ = some (.int .i64 (y'.c.z : Int)) := fun W h => HL1.out W (HB9.out.trans (h.mono HB9.out.size))
     have L2 : ∀ W, Below w9.heap.size w9 W → W.cell? ⟨gc, i * 6 + 2, none⟩ = some (.int .i64 (y'.c.r : Int)) := fun W h => HL2.out W (HB9.out.trans (h.mono HB9.out.size))
     have L3 : ∀ W, Below w9.heap.size w9 W → W.cell? ⟨gc, i * 6 + 3, none⟩ = some (.int .i64 (y'.c.o : Int)) := fun W h => HL3.out W (HB9.out.trans (h.mono HB9.out.size))
     have L4 : ∀ W, Below w9.heap.size w9 W → W.cell? ⟨gc, i * 6 + 4, none⟩ = some (.slice (some ⟨sb, 0, none⟩) y'.n2 y'.c2) := fun W h => HL4.out W (HB9.out.trans (h.mono HB9.out.size))
     have L5 : ∀ W, Below w9.heap.size w9 W → W.cell? ⟨gc, i * 6 + 5, none⟩ = some (.slice y'.a3 y'.n3 y'.c3) := fun W h => HL5.out W (HB9.out.trans (h.mono HB9.out.size))
     have L6 : ∀ W, Below w9.heap.size w9 W → W.cell? ⟨BX, 0, none⟩ = some (.int .i64 (z.p : Int)) := fun W h => (h.cell (p := ⟨BX, 0, none⟩) hs9).trans m0
     have L7 : ∀ W, Below w9.heap.size w9 W → W.cell? ⟨BX, 1, none⟩ = some (.int .i64 (z.n : Int)) := fun W h => (h.cell (p := ⟨BX, 1, none⟩) hs9).trans m1
     have L8 : ∀ W, Below w9.heap.size w9 W → W.cell? ⟨BX, 2, none⟩ = some (.int .i64 z.h) := fun W h => (h.cell (p := ⟨BX, 2, none⟩) hs9).trans m2
     have HI9 : Hid (∀ W, Below w9.heap.size w9 W → Calls Tryz.prog 73 #[.agg #[.slice y'.a1 y'.n1 y'.c1, .int .i64 y'.c.z, .int .i64 y'.c.r, .int .i64 y'.c.o, .slice (some ⟨sb, 0, none⟩) y'.n2 y'.c2, .slice y'.a3 y'.n3 y'.c3], .agg #[.int .i64 z.p, .int .i64 z.n, .int .i64 z.h]] W fun ev w' => ev = .returned (.bool (y'.c.idle z)) ∧ Below W.heap.size W w') := fun W h => HI.out W (HB9.out.trans (h.mono HB9.out.size))
     obtain ⟨bz, hbz⟩ : ∃ bz, y'.c.idle z = bz := ⟨_, rfl⟩
     rw [hbz] at HZ HI9
     clear m0 m1 m2 hbz HI
     go_cut [85, 86, 87, 95] (fun s85 s86 s87 s95 wx => s85 = .slice (some ⟨sb, 0, none⟩) y'.n2 y'.c2 ∧ s86 = .int .i64 (y'.n2 : Int) ∧ s87 = .int .i64 (j : Int) ∧ s95 = .bool bz ∧ Hid (Below w9.heap.size w9 wx))
     case first =>
      go_region_held3 (fun W => Below w9.heap.size w9 W) ((repeat (first | with_reducible assumption | with_reducible exact Below.refl _ _ | with_reducible refine Below.setCell ?_ ?_ _ | with_reducible apply Below.drew | with_reducible refine Below.step ?_ (aB _ _) | with_reducible refine Below.step ?_ (by with_reducible assumption) | (simp only; omega))))(first | (go_at_call 73; refine (HI9.out _ (by with_reducible assumption)).mono ?_; rintro ev w10 ⟨rfl, rU⟩))
      all_goals
       go_wp2_with fail
       go_meet
       exact ⟨by first | rfl | trivial, by first | rfl | trivial, by first | rfl | trivial, by first | rfl | trivial, by assumption⟩
     case rest =>
      obtain ⟨rfl, rfl, rfl, rfl, HB10⟩ := hcut
      clear L0 L1 L2 L3 L4 L5 L6 L7 L8 HI9
      have Vk := gO (HB9.out.trans (HB10.out.mono HB9.out.size))
      cases bz with
      | false =>
       go_wp2
       go_roundw
       case rel => exact ⟨j + 1, q, by omega, by go_num, by first | rfl | trivial, by omega, HZ, Vk⟩
       case measure => simp [intOf]; omega
      | true =>
       go_wp2
       go_roundw
       case rel => exact ⟨j + 1, q + 1, by omega, by go_num, by go_num, by omega, HZ, Vk⟩
       case measure => simp [intOf]; omega
    ·obtain rfl : j = y'.n2 := by omega
     have HQN : Hid ((y'.c.sl.filter y'.c.idle).length = q) := by
      have h := HQ.out
      rw [List.take_of_length_le (by have := XT.out; omega)] at h
      exact h
     by_cases hq : 1 < q
     ·have hqi : (1 : Int) < q := by omega
      have Ic : sF = s1.discard i k cpu := by
       rw [← HsF.out, vZ.out, IU.out, HQN.out, decide_eq_true hq]
       rfl
      have jG := EH.out.below lM.out
      have HTr := gO (aC HT6.out ht6 lM.out)
      have HUr := gO (aJ HU6.out ht6 lM.out)
      have XV := gO (HB6.out.trans (lM.out.mono (gR (Nat.lt_of_succ_lt ht6))))
      have htr := gI ht6 lM.out.size
      have HDC := gO (yF v2 s1 w.heap.size i k cpu (fun k => k < w.heap.size ∨ k = w.heap.size + 1) wr jG HK6.out hi2 (by rw [HVI.out]; have := XT.out; omega) aBl)
      clear EH HT6 HU6 HB7 HB67 Ie IU HL0 HL1 HL2 HL3 HL4 HL5 jG HQ lM vZ HsF
      go_upto_region 22 with (go_at_call 74; refine HDC.out.mono ?_; rintro ev w20 ⟨rfl, v3, XW, UK, aBb⟩)
      rw [← Ic] at XW
      have jK := gO XW
      have iT := gO (UK.box HTr.out htr (.inr rfl))
      have yG := gO (UK.Pg HUr.out htr (.inr rfl))
      have yH : Hid (Below w.heap.size w w20) := Safe.after XV.out UK (fun k hk => .inl hk) XV.out.size
      clear XW UK aBb HTr HUr XV HDC Ic
      have z0 := jK.out.k 0
      have z1 := jK.out.k 1
      have z2 := jK.out.k 2
      have z3 := jK.out.k 3
      have z4 := jK.out.k 4
      have z5 := jK.out.k 5
      have z6 := jK.out.k 6
      unfold Sc.vals at z0 z1 z2 z3 z4 z5 z6
      have q0 := iT.out 0
      have q1 := iT.out 1
      have q2 := iT.out 2
      have q3 := iT.out 3
      have q4 := iT.out 4
      have q5 := iT.out 5
      have q6 := iT.out 6
      obtain ⟨f0, f1, f2, f3, f4, f5, f6⟩ := gF7 yG.out
      simp only [gB, gC, gD] at z0 z1 z2 z3 z4 z5 z6 q0 q1 q2 q3 q4 q5 q6
      have fZ := out7 jK.out (T := w.heap.size + 1) (.inr rfl) (fun k hk => .inl hk) (Nat.lt_succ_self _) iT.out yH.out
      have KX := fZ.1
      have qJ := gO fZ.2.1
      have lI := gO fZ.2.2
      clear fZ jK iT yG yH
      go_wp2_with fail
      generalize ((((((w20.setCell ⟨w.heap.size + 1, 0, none⟩ (.slice v3.a1 v3.n1 v3.c1)).setCell ⟨w.heap.size + 1, 1, none⟩ (.slice v3.hc.az 2 v3.hc.cz)).setCell ⟨w.heap.size + 1, 2, none⟩ (.slice v3.hc.am 2 v3.hc.cm)).setCell ⟨w.heap.size + 1, 3, none⟩ (.int .i64 (sF.h.aF : Int))).setCell ⟨w.heap.size + 1, 4, none⟩ (.slice v3.hc.al v3.hc.lc.length v3.hc.cl)).setCell ⟨w.heap.size + 1, 5, none⟩ (.slice v3.hc.av sF.h.live.length v3.hc.cv)).setCell ⟨w.heap.size + 1, 6, none⟩ (.slice v3.a2 v3.ys.length v3.c2) = wx at *
      exact bodyPost_ret (v := .tuple #[.agg #[.slice v3.a1 v3.n1 v3.c1, .slice v3.hc.az 2 v3.hc.cz, .slice v3.hc.am 2 v3.hc.cm, .int .i64 (sF.h.aF : Int), .slice v3.hc.al v3.hc.lc.length v3.hc.cl, .slice v3.hc.av sF.h.live.length v3.hc.cv, .slice v3.a2 v3.ys.length v3.c2], .int .i64 0]) (by simp [results, Tryz.results33, go_sem, KX]) rfl (⟨v3, rfl, qJ.out, lI.out⟩)

     ·have hqi : ¬ (1 : Int) < q := by omega
      have Ic : sF = s1 := by
       rw [← HsF.out, vZ.out, IU.out, HQN.out, decide_eq_false hq]
       rfl
      subst Ic
      have jK := gO (EH.out.below lM.out)
      have iT := gO (aC HT6.out ht6 lM.out)
      have yG := gO (aJ HU6.out ht6 lM.out)
      have yH := gO (HB6.out.trans (lM.out.mono (gR (Nat.lt_of_succ_lt ht6))))
      clear EH HT6 HU6 HB7 HB67 Ie IU vZ HL0 HL1 HL2 HL3 HL4 HL5 HQ lM
      have z0 := jK.out.k 0
      have z1 := jK.out.k 1
      have z2 := jK.out.k 2
      have z3 := jK.out.k 3
      have z4 := jK.out.k 4
      have z5 := jK.out.k 5
      have z6 := jK.out.k 6
      unfold Sc.vals at z0 z1 z2 z3 z4 z5 z6
      have q0 := iT.out 0
      have q1 := iT.out 1
      have q2 := iT.out 2
      have q3 := iT.out 3
      have q4 := iT.out 4
      have q5 := iT.out 5
      have q6 := iT.out 6
      obtain ⟨f0, f1, f2, f3, f4, f5, f6⟩ := gF7 yG.out
      simp only [gB, gC, gD] at z0 z1 z2 z3 z4 z5 z6 q0 q1 q2 q3 q4 q5 q6
      have fZ := out7 jK.out (T := w.heap.size + 1) (.inr rfl) (fun k hk => .inl hk) (Nat.lt_succ_self _) iT.out yH.out
      have KX := fZ.1
      have qJ := gO fZ.2.1
      have lI := gO fZ.2.2
      clear fZ jK iT yG yH
      go_wp2_with fail
      generalize ((((((wr.setCell ⟨w.heap.size + 1, 0, none⟩ (.slice v2.a1 v2.n1 v2.c1)).setCell ⟨w.heap.size + 1, 1, none⟩ (.slice v2.hc.az 2 v2.hc.cz)).setCell ⟨w.heap.size + 1, 2, none⟩ (.slice v2.hc.am 2 v2.hc.cm)).setCell ⟨w.heap.size + 1, 3, none⟩ (.int .i64 (sF.h.aF : Int))).setCell ⟨w.heap.size + 1, 4, none⟩ (.slice v2.hc.al v2.hc.lc.length v2.hc.cl)).setCell ⟨w.heap.size + 1, 5, none⟩ (.slice v2.hc.av sF.h.live.length v2.hc.cv)).setCell ⟨w.heap.size + 1, 6, none⟩ (.slice v2.a2 v2.ys.length v2.c2) = wx at *
      exact bodyPost_ret (v := .tuple #[.agg #[.slice v2.a1 v2.n1 v2.c1, .slice v2.hc.az 2 v2.hc.cz, .slice v2.hc.am 2 v2.hc.cm, .int .i64 (sF.h.aF : Int), .slice v2.hc.al v2.hc.lc.length v2.hc.cl, .slice v2.hc.av sF.h.live.length v2.hc.cv, .slice v2.a2 v2.ys.length v2.c2], .int .i64 0]) (by simp [results, Tryz.results33, go_sem, KX]) rfl (⟨v2, rfl, qJ.out, lI.out⟩)
end
end Go.Proofs.YtcmpmobhongkiaaGreatDoor
