/- texts of this claim, joined. -/
import Derived.Test.YtcmpmobhongkiaaGreatDoorCM0
import Derived.Test.YtcmpmobhongkiaaGreatDoorCM17
import Derived.Test.YtcmpmobhongkiaaGreatDoorCM19
import Derived.Test.YtcmpmobhongkiaaGreatDoorCM29
import Derived.Test.YtcmpmobhongkiaaGreatDoorCM33
set_option linter.unusedVariables false
set_option linter.unusedSimpArgs false
namespace Go.Proofs.YtcmpmobhongkiaaGreatDoor
section
open Go.RowKit

theorem row_drop {w : World} {b o : Nat} {xs : List Value} (h : Row w (some ⟨b, o, none⟩) xs) (k : Nat) : Row w (some ⟨b, o + k, none⟩) (xs.drop k) := by
 intro j v hj
 rw [List.getElem?_drop] at hj
 obtain ⟨b', o', e, h1, h2⟩ := h _ v hj
 obtain ⟨rfl, rfl⟩ : b = b' ∧ o = o' := by simpa using e
 exact ⟨b, o + k, rfl, h1, by rw [Nat.add_assoc]; exact h2⟩

set_option maxHeartbeats 8000000 in
set_option maxRecDepth 100000 in
theorem Rx (az am al av : Option Addr) (cz cm cl cv nl nv : Nat) (y0 y1 : Zc) (lc : List Lc) (h : Hp) (cpu p : Nat) (w : World) (hh : HAt w az am al av nl nv y0 y1 lc h) (hk : dW h) (hnl : nl ≤ 1000) (Oy : nv ≤ 1000) (hc : cpu < h.aF) (hp : p ≤ 1000) (hth : hasB h.live p = true) :
  Calls Tryz.prog 89 #[.agg #[.slice az 2 cz, .slice am 2 cm, .int .i64 h.aF, .slice al nl cl, .slice av nv cv], .int .i64 cpu, .int .i64 p] w fun ev w' => Below w.heap.size w w' ∧ ∃ (c' : Hc) (hi : lb h.live p < h.live.length), ev = .returned (.tuple #[.agg (c'.vals (h.gX cpu (lb h.live p) h.live[lb h.live p])), .int .i64 0]) ∧ lK w' w.heap.size (h.gX cpu (lb h.live p) h.live[lb h.live p]) c' := by
 have Yx := gO hth
 clear hth
 obtain ⟨K1, K2, F1, F2, hsz, hbw⟩ := boxes2 w #[.slice az 2 cz, .slice am 2 cm, .int .i64 (h.aF : Int), .slice al nl cl, .slice av nv cv] 44 #[.slice none 0 0, .slice none 0 0, .int .i64 0, .slice none 0 0, .slice none 0 0] 44
 have HH := gO (hh.below hbw)
 have HK := gO hk
 have HB1 := gO hbw
 have HLV : Hid (h.live.length ≤ 1000) := by unfold Hid; rw [hh.nv]; exact Oy
 have k10 := K1 0
 have k11 := K1 1
 have k12 := K1 2
 have k13 := K1 3
 have k14 := K1 4
 simp only [gB, gC, gD] at k10 k11 k12 k13 k14
 clear hh hk hbw
 go_enter Tryz.func89, Tryz.ntmps89
 go_wp2_with fail
 generalize (w.alloc (.cells #[.slice az 2 cz, .slice am 2 cm, .int .i64 (h.aF : Int), .slice al nl cl, .slice av nv cv] 44)).alloc (.cells #[.slice none 0 0, .slice none 0 0, .int .i64 0, .slice none 0 0, .slice none 0 0] 44) = w1 at *
 refine (wU _ _ _ _ _ _ _ _ _ _ _ _ _ h w1 HH.out HK.out hnl Oy).mono ?_
 rintro ev w2 ⟨rfl, hb2⟩
 have Js := aC K1 (by omega) hb2
 have F1a := aJ F1 (by omega) hb2
 have K2a := aC K2 hsz hb2
 have F2a := aJ F2 hsz hb2
 have HH2 := gO (HH.out.below hb2)
 have HB2 := gO (Below.trans HB1.out (hb2.mono HB1.out.size))
 have hsz2 : w.heap.size + 1 < w2.heap.size := gI hsz hb2.size
 clear k10 k11 k12 k13 k14 hb2 K1 F1 K2 F2
 have k10 := Js 0
 have k11 := Js 1
 have k12 := Js 2
 have k13 := Js 3
 have k14 := Js 4
 simp only [gB, gC, gD] at k10 k11 k12 k13 k14
 have d1 : decide ((cpu : Int) < 0) = false := decide_eq_false (by omega)
 have d2 : decide (h.aF ≤ cpu) = false := decide_eq_false (by omega)
 go_wp2_with fail
 refine (DX _ _ _ _ _ _ _ _ _ _ _ _ _ h p w2 HH2.out HK.out Oy hp).mono ?_
 rintro ev OB ⟨rfl, Hw⟩
 rw [Yx.out]
 have XE := aC Js (by omega) Hw
 have F1l := aJ F1a (by omega) Hw
 have K2l := aC K2a hsz2 Hw
 have F2l := aJ F2a hsz2 Hw
 have aAS := gO (HH2.out.below Hw)
 have aAT := gO (Below.trans HB2.out (Hw.mono HB2.out.size))
 have Ry : w.heap.size + 1 < OB.heap.size := gI hsz2 Hw.size
 clear k10 k11 k12 k13 k14 Hw Js F1a K2a F2a HH2 HB2 hsz2
 have k10 := XE 0
 have k11 := XE 1
 have k12 := XE 2
 have k13 := XE 3
 have k14 := XE 4
 simp only [gB, gC, gD] at k10 k11 k12 k13 k14
 go_wp2_with fail
 refine (zV _ _ _ _ _ _ _ _ _ _ _ _ _ h OB aAS.out HK.out Oy).mono ?_
 rintro ev w3 ⟨g, c, rfl, hs3, hg3, hb3⟩
 have BQ := aC XE (by omega) hb3
 have Jt := aJ F1l (by omega) hb3
 have K2b := gO (aC K2l Ry hb3)
 have F2b := gO (aJ F2l Ry hb3)
 have HS4 := gO (hs3.move (B := w.heap.size) (show w.heap.size < OB.heap.size by omega) BQ Jt)
 have HB3 := gO (Below.trans aAT.out (hb3.mono aAT.out.size))
 clear k10 k11 k12 k13 k14 XE F1l K2l F2l hs3 HH aAS hg3
 have k10 := BQ 0
 have k11 := BQ 1
 have k12 := BQ 2
 have k13 := BQ 3
 have k14 := BQ 4
 have f10 := Jt 0
 have f11 := Jt 1
 have f12 := Jt 2
 have f13 := Jt 3
 have f14 := Jt 4
 simp only [gB, gC, gD] at k10 k11 k12 k13 k14
 unfold Hc.vals
 go_upto_region 10 with fail
 have Ju : Hid (HS (((((w3.setCell ⟨w.heap.size, 0, none⟩ (.slice c.az 2 c.cz)).setCell ⟨w.heap.size, 1, none⟩ (.slice c.am 2 c.cm)).setCell ⟨w.heap.size, 2, none⟩ (.int .i64 (h.aF : Int))).setCell ⟨w.heap.size, 3, none⟩ (.slice c.al c.lc.length c.cl)).setCell ⟨w.heap.size, 4, none⟩ (.slice c.av h.live.length c.cv)) w.heap.size (fun k => k < OB.heap.size ∧ k ≠ w.heap.size) h c) := HS4
 have hne1 : w.heap.size + 1 ≠ w.heap.size := by omega
 have Xt := gO (aA (aA (aA (aA (aA K2b.out hne1 0 (.slice c.az 2 c.cz)) hne1 1 (.slice c.am 2 c.cm)) hne1 2 (.int .i64 (h.aF : Int))) hne1 3 (.slice c.al c.lc.length c.cl)) hne1 4 (.slice c.av h.live.length c.cv))
 have Xu := gO (aH (aH (aH (aH (aH F2b.out ⟨w.heap.size, 0, none⟩ (.slice c.az 2 c.cz)) ⟨w.heap.size, 1, none⟩ (.slice c.am 2 c.cm)) ⟨w.heap.size, 2, none⟩ (.int .i64 (h.aF : Int))) ⟨w.heap.size, 3, none⟩ (.slice c.al c.lc.length c.cl)) ⟨w.heap.size, 4, none⟩ (.slice c.av h.live.length c.cv))
 have hle0 : w.heap.size ≤ w.heap.size := Nat.le_refl _
 have HB4 := gO (Below.setCell (Below.setCell (Below.setCell (Below.setCell (Below.setCell HB3.out (show w.heap.size ≤ (⟨w.heap.size, 0, none⟩ : Addr).block from hle0) (.slice c.az 2 c.cz)) (show w.heap.size ≤ (⟨w.heap.size, 1, none⟩ : Addr).block from hle0) (.slice c.am 2 c.cm)) (show w.heap.size ≤ (⟨w.heap.size, 2, none⟩ : Addr).block from hle0) (.int .i64 (h.aF : Int))) (show w.heap.size ≤ (⟨w.heap.size, 3, none⟩ : Addr).block from hle0) (.slice c.al c.lc.length c.cl)) (show w.heap.size ≤ (⟨w.heap.size, 4, none⟩ : Addr).block from hle0) (.slice c.av h.live.length c.cv))
 have oH : w.heap.size + 1 < (((((w3.setCell ⟨w.heap.size, 0, none⟩ (.slice c.az 2 c.cz)).setCell ⟨w.heap.size, 1, none⟩ (.slice c.am 2 c.cm)).setCell ⟨w.heap.size, 2, none⟩ (.int .i64 (h.aF : Int))).setCell ⟨w.heap.size, 3, none⟩ (.slice c.al c.lc.length c.cl)).setCell ⟨w.heap.size, 4, none⟩ (.slice c.av h.live.length c.cv)).heap.size := by have := hb3.size; simp; omega
 clear k10 k11 k12 k13 k14 f10 f11 f12 f13 f14 BQ Jt K2b F2b HS4 hb3 HB3
 generalize (((((w3.setCell ⟨w.heap.size, 0, none⟩ (.slice c.az 2 c.cz)).setCell ⟨w.heap.size, 1, none⟩ (.slice c.am 2 c.cm)).setCell ⟨w.heap.size, 2, none⟩ (.int .i64 (h.aF : Int))).setCell ⟨w.heap.size, 3, none⟩ (.slice c.al c.lc.length c.cl)).setCell ⟨w.heap.size, 4, none⟩ (.slice c.av h.live.length c.cv)) = w4 at *
 have hX1 : (fun k => k < OB.heap.size ∧ k ≠ w.heap.size) (w.heap.size + 1) := ⟨Ry, hne1⟩
 obtain ⟨I, hI⟩ : ∃ I, lb h.live p = I := ⟨_, rfl⟩
 obtain ⟨hi, hpa⟩ := BU HK.out.vs Yx.out
 simp only [hI] at hi hpa ⊢
 have HI := gO hI
 obtain ⟨b, hb⟩ : ∃ b, h.live[I] = b := ⟨_, rfl⟩
 have QV := gO hb
 rw [hb] at hpa
 have hlv := Ju.out.r.lv
 obtain ⟨gv, _, hgv, _, aHA, _, _⟩ := eF hlv 0 (by show 0 < (flat aO h.live).length; rw [flat_length aI]; omega)
 obtain ⟨pb, po, hpv, hpb, hpc⟩ := aN aI (by decide) (aY hlv) hi
 obtain ⟨rfl, rfl⟩ : gv = pb ∧ 0 = po := by rw [hgv] at hpv; simpa using hpv
 rw [hb] at hpc
 obtain ⟨v0, v1, v2⟩ := bK hpc
 simp only [Nat.zero_add] at v0 v1 v2
 have hI2 : (I : Int) < h.live.length := by omega
 obtain ⟨k0, k1, k2, k3, k4⟩ := Ju.out.words
 have hG4 : w.heap.size < w4.heap.size := Ju.out.r.gs
 rw [hgv] at k4
 have HGV := gO hgv
 have aDH := HLV.out
 clear hlv hpv hpc hI hb
 go_upto_region 11 with fail
 have rM := aB w4 (.cells #[.int .i64 (p : Int), .int .i64 (b.o : Int), .int .i64 (b.t : Int)] 63)
 have HS5 := gO (Ju.out.new rM)
 have SF5 := gO (Safe.fP (X := fun k => k < OB.heap.size ∧ k ≠ w.heap.size) rM)
 have K5 : Hid (∀ o, (w4.alloc (.cells #[.int .i64 (p : Int), .int .i64 (b.o : Int), .int .i64 (b.t : Int)] 63)).cell? ⟨w4.heap.size, o, none⟩ = (#[.int .i64 (p : Int), .int .i64 (b.o : Int), .int .i64 (b.t : Int)] : Array Value)[o]?) := bC w4 _ _
 have hsz5 : w4.heap.size < (w4.alloc (.cells #[.int .i64 (p : Int), .int .i64 (b.o : Int), .int .i64 (b.t : Int)] 63)).heap.size := by simp
 clear k0 k1 k2 k3 k4 v0 v1 v2 rM Ju
 generalize w4.alloc (.cells #[.int .i64 (p : Int), .int .i64 (b.o : Int), .int .i64 (b.t : Int)] 63) = w5 at *
 obtain ⟨k0, k1, k2, k3, k4⟩ := HS5.out.words
 rw [HGV.out] at k4
 have hG5 : w.heap.size < w5.heap.size := HS5.out.r.gs
 go_wp2_with fail
 have hlv := HS5.out.r.lv
 rw [show vC c h = ⟨63, 3, .slice c.av h.live.length c.cv, h.live.length, flat aO h.live⟩ from rfl] at hlv
 unfold Rs.on at hlv
 simp only [HGV.out] at hlv
 refine (nY 0 (some ⟨gv, 0, none⟩) h.live.length c.cv h.live I w5 hlv hi aDH (Nat.zero_le _)).mono ?_
 rintro ev w6 ⟨rfl, ho6, hg6⟩
 have hle : (h.live.eraseIdx I).length = h.live.length - 1 := List.length_eraseIdx_of_lt hi
 have hlb : (vC c h).v.ownBlock = some gv := by unfold vC; rw [HGV.out]; rfl
 have Rz : w5.grownBy w6 (vC c h).v.ownBlock := by rw [hlb]; exact hg6
 have rO : some w.heap.size ≠ (vC c h).v.ownBlock := fun e => (HS5.out.r.og _ (iQ c h) _ e.symm).1 rfl
 obtain ⟨hs7, sf7⟩ := HS5.out.away Rz (oK := some ⟨gv, 0, none⟩) (cv' := c.cv) (v' := h.live.eraseIdx I) (by rw [hle]; exact ho6) (fun k hk => .inl (by rw [hlb]; simpa [Value.ownBlock] using hk))
 rw [hle] at hs7 sf7
 have r4 := (bH HS5.out.k hG5 Rz rO 4).trans (show _ = some (.slice c.av h.live.length c.cv) from rfl)
 have g4 := bI HS5.out.fz hG5 Rz rO 4
 rw [HGV.out] at r4
 have hG6 : w.heap.size < w6.heap.size := gI hG5 Rz.size
 have SF7 := gO (SF5.out.trans (sf7.sub (fun k _ hk => .inl hk)))
 have K7 := sf7.box K5.out hsz5 (.inr ⟨Nat.le_refl _, hsz5⟩)
 have HS7 := gO hs7
 have HLE := gO hle
 clear k0 k1 k2 k3 k4 hs7 sf7 ho6 hg6 Rz rO hlb hle K5 HS5 SF5
 have b0 := K7 0
 have b1 := K7 1
 have b2 := K7 2
 simp only [gB, gC, gD] at b0 b1 b2
 go_upto_region 12 with fail
 generalize w6.setCell ⟨w.heap.size, 4, none⟩ (.slice (some ⟨gv, 0, none⟩) (h.live.length - 1) c.cv) = w7 at *
 obtain ⟨hk1, hce⟩ := HK.out.erase hi
 rw [QV.out] at hce
 have hfb := HK.out.lv _ (gL hi)
 rw [QV.out] at hfb
 obtain ⟨h1, hh1⟩ : ∃ h1 : Hp, { h with live := h.live.eraseIdx I } = h1 := ⟨_, rfl⟩
 obtain ⟨c1, hc1⟩ : ∃ c1 : Hc, { c with av := some ⟨gv, 0, none⟩ } = c1 := ⟨_, rfl⟩
 have HC1 : Hid (h1.aF = h.aF ∧ h1.live.length = h.live.length - 1) := by rw [← hh1]; exact ⟨rfl, HLE.out⟩
 rw [show ({ z0 := h.z0, z1 := h.z1, m0 := h.m0, m1 := h.m1, aF := h.aF, ls := h.ls, live := h.live.eraseIdx I } : Hp) = h1 from hh1, show ({ az := c.az, cz := c.cz, am := c.am, cm := c.cm, al := c.al, cl := c.cl, av := some ⟨gv, 0, none⟩, cv := c.cv, y0 := c.y0, y1 := c.y1, lc := c.lc } : Hc) = c1 from hc1] at HS7
 rw [hh1] at hk1 hce
 have HH1 := gO hh1
 have HK1 := gO hk1
 have HCE := gO hce
 have HFB := gO hfb
 have hX2 : (fun k => k < OB.heap.size ∧ k ≠ w.heap.size ∨ w4.heap.size ≤ k ∧ k < w5.heap.size) w4.heap.size := .inr ⟨Nat.le_refl _, hsz5⟩
 have aAU : w4.heap.size < w7.heap.size := HS7.out.r.xs _ hX2
 clear HLE hh1 hc1 hk1 hce hfb r4 g4 hG6
 by_cases ho : 0 < b.o
 ·have hoi : (0 : Int) < b.o := by omega
  go_wp2_with fail
  have hdj : ∀ q, cnt h1.all q + hit ⟨p, b.o, 0⟩ q ≤ 1 := fun q => by have h1 := HCE.out q; have h2 := HK.out.one q; rw [hpa] at h1; omega
  have hft : bY 0 256 p b.o := by rw [← hpa]; exact HFB.out.1
  refine (TL w.heap.size p b.o _ h1 c1 w7 HS7.out HK1.out hft hdj).mono ?_
  rintro ev w8 ⟨rfl, ⟨y8, y9, hs8⟩, sf8⟩
  have vZ : Hid (∃ hi : lb h.live p < h.live.length, h.gX cpu (lb h.live p) h.live[lb h.live p] = h1.iE p b.o) := ⟨by rw [HI.out]; exact hi, by
   simp only [HI.out, QV.out]
   rw [NI ho, ← HH1.out, hpa]⟩
  have SF8 := gO (SF7.out.trans (sf8.sub fun k _ hk => .inl hk))
  have HS8 := gO hs8
  clear hs8 sf8 hdj hft
  generalize ({ c1 with y0 := y8, y1 := y9 } : Hc) = c8 at *
  generalize h1.iE p b.o = h8 at *
  have HB0 : w.heap.size ≤ w4.heap.size := by omega
  obtain ⟨⟨k10, k11, k12, k13, k14⟩, ⟨f10, f11, f12, f13, f14⟩, hsx, hbx, KX⟩ := ret5 HB4.out SF8.out (HS8.out.sub fun k hk => .inl hk) Xt.out Xu.out oH hX1 (fun k hk => ⟨by omega, by omega⟩) HB0 (Nat.le_succ _) (.slice c8.az 2 c8.cz) (.slice c8.am 2 c8.cm) (.int .i64 (h8.aF : Int)) (.slice c8.al c8.lc.length c8.cl) (.slice c8.av h8.live.length c8.cv)
  unfold put5 at hsx hbx
  have qJ := gO hsx
  have lI := gO hbx
  have hG8 : w.heap.size < w8.heap.size := HS8.out.r.gs
  have aAV : w.heap.size + 1 < w8.heap.size := by have := SF8.out.size; omega
  obtain ⟨q0, q1, q2, q3, q4⟩ := HS8.out.words
  unfold put5 at KX
  clear hsx hbx HS8 SF8 HS7 SF7
  go_wp2
  generalize (((((w8.setCell ⟨w.heap.size + 1, 0, none⟩ (.slice c8.az 2 c8.cz)).setCell ⟨w.heap.size + 1, 1, none⟩ (.slice c8.am 2 c8.cm)).setCell ⟨w.heap.size + 1, 2, none⟩ (.int .i64 (h8.aF : Int))).setCell ⟨w.heap.size + 1, 3, none⟩ (.slice c8.al c8.lc.length c8.cl)).setCell ⟨w.heap.size + 1, 4, none⟩ (.slice c8.av h8.live.length c8.cv)) = wx at *
  obtain ⟨hi', e⟩ := vZ.out
  refine bodyPost_ret (v := .tuple #[.agg #[.slice c8.az 2 c8.cz, .slice c8.am 2 c8.cm, .int .i64 (h8.aF : Int), .slice c8.al c8.lc.length c8.cl, .slice c8.av h8.live.length c8.cv], .int .i64 0]) (by simp [results, Tryz.results89, go_sem, KX]) rfl ⟨lI.out, c8, hi', ?_⟩
  rw [e]
  exact ⟨rfl, qJ.out.r.sub (fun k hk => ⟨by omega, by omega⟩)⟩
 ·have ho0 : b.o = 0 := by omega
  rw [ho0] at b1
  have VH : p < 256 := by have := HFB.out.1.2.2.1; rw [hpa] at this; exact this
  have hdj : ∀ q, cnt h1.all q + hit ⟨p, 0, 0⟩ q ≤ 1 := fun q => by have h1 := HCE.out q; have h2 := HK.out.one q; rw [hpa, ho0] at h1; omega
  have HFR0 : Hid (∃ hi : lb h.live p < h.live.length, h.gX cpu (lb h.live p) h.live[lb h.live p] = h1.give cpu p) := ⟨by rw [HI.out]; exact hi, by
   simp only [HI.out, QV.out]
   rw [NJ ho0, ← HH1.out, hpa]⟩
  have hc1 : cpu < h1.aF := by rw [HC1.out.1]; exact hc
  obtain ⟨L, hL⟩ : ∃ L : Ls, L = ⟨cpu, h1.iD p, h1.typ p, []⟩ := ⟨_, rfl⟩
  have aAW := gO (HK1.out.giving hc1 VH hdj hL)
  have TB := gO hL
  clear hL
  have hzi : h1.iD p < 2 := by unfold Hp.iD; split <;> omega
  have hfz := HK1.out.fits (oG VH)
  have HZK := gO (HK1.out.zone (h1.iD p))
  have HTL := gO (HK1.out.Qq p)
  clear hdj
  obtain ⟨k0, k1, k2, k3, k4⟩ := HS7.out.words
  have hG7 : w.heap.size < w7.heap.size := HS7.out.r.gs
  go_wp2_with fail
  refine (DT _ _ _ _ _ _ _ _ _ _ _ _ _ h1 p w7 HS7.out.r.at).mono ?_
  rintro ev w8 ⟨rfl, hb8⟩
  have HS8 := gO (HS7.out.below hb8)
  have SF8 := gO (SF7.out.then hb8)
  have aAX : w4.heap.size < w8.heap.size := gI aAU hb8.size
  obtain ⟨gz, hgz, aDK, _, _, _⟩ := HS8.out.r.zI
  obtain ⟨z0, z1, z2, z3⟩ := HS8.out.r.wV hgz hzi
  have HZA := gO (HS8.out.r.zat hzi)
  have Yw : Hid ((h1.zone (h1.iD p)).y.getD ((p - (h1.zone (h1.iD p)).f) / 8) 0 = h1.typ p) := rfl
  clear K7 b0 b1 b2 k0 k1 k2 k3 k4 hb8 HS7 SF7 aAU hG7
  obtain ⟨k0, k1, k2, k3, k4⟩ := HS8.out.words
  rw [hgz] at k0
  have hG8 : w.heap.size < w8.heap.size := HS8.out.r.gs
  have aDM : ((h1.iD p : Nat) : Int) < 2 := by omega
  go_upto_region 16 with fail
  obtain ⟨zi, hzz⟩ : ∃ zi, h1.iD p = zi := ⟨_, rfl⟩
  have HZZ := gO hzz
  rw [hzz] at z0 z1 z2 z3 HZA Yw hfz HZK aDM hzi ⊢
  generalize c1.zone zi = y at *
  generalize h1.zone zi = z at *
  go_wp2_with fail
  refine (Oj _ _ _ _ _ _ z p w8 HZA.out HZK.out hfz.2.1 hfz.2.2.1).mono ?_
  rintro ev w9 ⟨rfl, hb9⟩
  rw [Yw.out]
  have HS9 := gO (HS8.out.below hb9)
  have SF9 := gO (SF8.out.then hb9)
  have aDN : w4.heap.size < w9.heap.size := gI aAX hb9.size
  obtain ⟨ti, hti⟩ : ∃ ti, h1.typ p = ti := ⟨_, rfl⟩
  have HTI := gO hti
  rw [hti] at HTL ⊢
  clear k0 k1 k2 k3 k4 z0 z1 z2 z3 HZA hfz HZK Yw hgz aDK hb9 HS8 SF8 aAX hG8 hti hzz
  have hG9 : w.heap.size < w9.heap.size := HS9.out.r.gs
  go_upto_region 18 with fail
  have hbl := aB w9 (.cells #[.int .i64 (cpu : Int), .int .i64 (zi : Int), .int .i64 (ti : Int), .slice none 0 0] 207)
  have HS10 := gO (HS9.out.new hbl)
  have SF10 := gO (SF9.out.then hbl)
  have KL : Hid (∀ o, (w9.alloc (.cells #[.int .i64 (cpu : Int), .int .i64 (zi : Int), .int .i64 (ti : Int), .slice none 0 0] 207)).cell? ⟨w9.heap.size, o, none⟩ = (#[.int .i64 (cpu : Int), .int .i64 (zi : Int), .int .i64 (ti : Int), .slice none 0 0] : Array Value)[o]?) := bC w9 _ _
  have UF : w9.heap.size < (w9.alloc (.cells #[.int .i64 (cpu : Int), .int .i64 (zi : Int), .int .i64 (ti : Int), .slice none 0 0] 207)).heap.size := by simp
  clear hbl HS9 SF9
  generalize w9.alloc (.cells #[.int .i64 (cpu : Int), .int .i64 (zi : Int), .int .i64 (ti : Int), .slice none 0 0] 207) = w10 at *
  have l0 := KL.out 0
  have l1 := KL.out 1
  have l2 := KL.out 2
  have l3 := KL.out 3
  simp only [gB, gC, gD] at l0 l1 l2 l3
  obtain ⟨hlr, hrise, aAY, hlen, hhas, x, hx, hxk, hx9, CX, _, _, RD⟩ := aAW.out
  have hLc : L.c = cpu ∧ L.z = zi ∧ L.t = ti := by rw [TB.out]; exact ⟨rfl, HZZ.out, HTI.out⟩
  have FW := gO hrise
  have aDO := gO aAY
  have HLEN := gO hlen
  have aDP := gO hhas
  have HX := gO hx
  have HXK := gO hxk
  have HGV1 := gO CX
  have ZI := gO RD
  have SL := gO hLc
  clear hlr hrise aAY hlen hhas hx hxk CX RD hLc aAW
  go_wp2_with fail
  have hpush := KW w.heap.size p L none 0 0 _ h1 c1 w10 HS10.out HK1.out ⟨by rw [SL.out.2.1]; exact hzi, by rw [SL.out.2.2]; exact HTL.out⟩
  rw [SL.out.1, SL.out.2.1, SL.out.2.2] at hpush
  refine hpush.mono ?_
  rintro ev w11 ⟨rfl, ⟨al2, cl2, lc2, hs11⟩, sf11⟩
  obtain ⟨h2, hh2⟩ : ∃ h2 : Hp, { h1 with ls := bD h1.ls L p } = h2 := ⟨_, rfl⟩
  obtain ⟨c2, hc2⟩ : ∃ c2 : Hc, { c1 with al := al2, cl := cl2, lc := lc2 } = c2 := ⟨_, rfl⟩
  rw [hh2, hc2] at hs11
  have HL2 : Hid (h2.ls = bD h1.ls L p) := by rw [← hh2]; rfl
  have HH2 := gO hh2
  have HS11 := gO (hs11.sub (Y := fun k => k < OB.heap.size ∧ k ≠ w.heap.size) fun k hk => .inl (.inl hk))
  have SF11 := gO (SF10.out.trans (sf11.sub fun k _ hk => .inl (.inl hk)))
  have KL11 := sf11.box KL.out UF (.inr ⟨Nat.le_refl _, UF⟩)
  have aFN : w9.heap.size < w11.heap.size := gI UF sf11.size
  have aHD : c2.lc.length ≤ 24 := by rw [wX hs11.r, HL2.out]; exact HLEN.out
  have aDQ := gO (wX hs11.r)
  clear l0 l1 l2 l3 hpush hs11 sf11 HS10 SF10 KL hc2 hh2 hG9 aDN UF
  have l0 := KL11 0
  have l1 := KL11 1
  have l2 := KL11 2
  have l3 := KL11 3
  simp only [gB, gC, gD] at l0 l1 l2 l3
  obtain ⟨k0, k1, k2, k3, k4⟩ := HS11.out.words
  have aDR : w.heap.size < w11.heap.size := HS11.out.r.gs
  go_wp2_with fail
  have hlist := FV c2.az c2.am c2.al c2.av c2.cz c2.cm c2.cl c2.cv c2.lc.length h2.live.length c2.y0 c2.y1 c2.lc h2 L none 0 0 w11 HS11.out.r.at (by rw [HL2.out]; exact FW.out) (by rw [HL2.out]; exact aDO.out) ⟨by rw [SL.out.2.1]; exact hzi, by rw [SL.out.2.2]; exact HTL.out⟩ (by omega)
  rw [SL.out.1, SL.out.2.1, SL.out.2.2, HL2.out, aDP.out] at hlist
  refine hlist.mono ?_
  rintro ev w12 ⟨rfl, nM⟩
  have HS12 := gO (HS11.out.below nM)
  have SF12 := gO (SF11.out.then nM)
  obtain ⟨J, hJ⟩ : ∃ J, iP (bD h1.ls L p) L.key = J := ⟨_, rfl⟩
  have HJ := gO hJ
  rw [hJ]
  have hx2 : h2.ls[J]? = some x := by rw [← hJ, HL2.out]; exact HX.out
  obtain ⟨hJ2, hxJ⟩ := List.getElem?_eq_some_iff.1 hx2
  have hJc : J < c2.lc.length := by rw [aDQ.out]; exact hJ2
  have hcx : c2.lc[J].l = x := by rw [← hxJ]; exact Ec HS12.out.r hJc hJ2
  obtain ⟨r, hr⟩ : ∃ r, c2.lc[J] = r := ⟨_, rfl⟩
  have HRJ := gO hr
  rw [hr] at hcx
  have hrm : r ∈ c2.lc := by rw [← hr]; exact gL hJc
  have hrn := sQ (HS12.out.r.jJ r hrm)
  rw [hcx] at hrn
  obtain ⟨gl, hgl, wY, Xa, Xb, Ed⟩ := HS12.out.r.oW (by omega)
  obtain ⟨x0, x1, x2, x3⟩ := HS12.out.r.sZ hgl hJc
  rw [hr] at x0 x1 x2 x3
  have hJi : (J : Int) < c2.lc.length := by omega
  have EM := gO hgl
  have VI := gO hcx
  have Xc := gO hrm
  have HX2 := gO hx2
  clear k0 k1 k2 k3 k4 l0 l1 l2 l3 hlist nM HS11 SF11 aDR KL11 hcx hr hJ hx2 hxJ hrm
  obtain ⟨k0, k1, k2, k3, k4⟩ := HS12.out.words
  have aHE : w.heap.size < w12.heap.size := HS12.out.r.gs
  rw [hgl] at k3
  go_upto_region 20 with fail
  by_cases h8 : 8 < x.p.length
  ·have aDT : (8 : Int) < r.n := by omega
   have hrc := dF (HS12.out.r.jJ r Xc.out)
   obtain ⟨pb, jS, XF, _, _⟩ := aN bM (by decide) (aY (HS12.out.r.jJ r Xc.out)) (j := 0) (by show 0 < r.l.p.length; rw [VI.out]; omega)
   rw [XF] at x3
   have HPA9 := gO XF
   have hc4 : 4 ≤ r.c := by omega
   have hn4 : 4 ≤ r.n := by omega
   have aHF : ¬ r.c = 4 := by omega
   clear XF
   go_wp2_with fail
   clear k0 k1 k2 k3 k4 x0 x1 x2 x3 hgl wY Ed
   obtain ⟨wa, hwa⟩ : ∃ wa, wa = w12 := ⟨_, rfl⟩
   have HWA := gO hwa
   rw [← hwa] at HS12 SF12
   clear hwa
   go_loopw [109] (fun s109 wr => ∃ (j : Nat) (y8 y9 : Zc), j ≤ 4 ∧ s109 = .int .i64 (j : Int) ∧ Hid (HS wr w.heap.size (fun k => k < OB.heap.size ∧ k ≠ w.heap.size) (aV h2 (x.p.take j)) { c2 with y0 := y8, y1 := y9 }) ∧ Hid (Safe (fun k => k < OB.heap.size ∧ k ≠ w.heap.size) w4 wr)) (fun s109 _ => 4 - (intOf s109).toNat)
   case atStart => exact ⟨0, c2.y0, c2.y1, Nat.zero_le _, rfl, by rw [← HWA.out]; exact HS12, by rw [← HWA.out]; exact SF12⟩
   case round =>
    obtain ⟨j, y8, y9, hj, rfl, jG, wZ⟩ := hrel
    clear HS12 SF12
    have Zv : w.heap.size < wr.heap.size := jG.out.r.gs
    by_cases hlt : j < 4
    ·have hlt2 : (j : Int) < 4 := by omega
     have Ve : j < x.p.length := by omega
     have hjr : j < r.l.p.length := by rw [VI.out]; exact Ve
     obtain ⟨pb', zO, hp9, hpb, hpc⟩ := aN bM (by decide) (aY (jG.out.r.jJ r Xc.out)) (j := j) hjr
     obtain ⟨rfl, rfl⟩ : pb = pb' ∧ jS = zO := by rw [HPA9.out] at hp9; simpa using hp9
     have zQ := gV hpc
     rw [Nat.mul_one] at zQ
     obtain ⟨P, hP⟩ : ∃ P, r.l.p[j] = P := ⟨_, rfl⟩
     have hP2 : x.p[j] = P := by rw [← hP]; simp only [VI.out]
     obtain ⟨g1, g2, g3⟩ := ZI.out j Ve h2.ls
     have hbs : ({ aV { h1 with ls := bD h1.ls L p } (x.p.take j) with ls := h2.ls } : Hp) = aV h2 (x.p.take j) := by rw [HH2.out, ← jB, ← HH2.out]
     have Vk := gO (vO h2 x.p Ve)
     rw [hbs] at g1 g2 g3
     rw [hP2] at g1 g2 g3 Vk
     rw [hP] at zQ
     have G1 := gO g1
     have G2 := gO g2
     have G3 := gO g3
     clear hpc hP hP2 g1 g2 g3 hp9 hbs
     go_wp2_with fail
     refine (zS w.heap.size P 0 _ _ _ wr jG.out G1.out G2.out G3.out).mono ?_
     rintro ev w13 ⟨rfl, ⟨u0, u1, hs6⟩, sf6⟩
     rw [← Vk.out] at hs6
     have HS6 := gO hs6
     have SF6 := gO (wZ.out.trans sf6)
     clear hs6 sf6 zQ
     go_wp2
     go_roundw
     case rel => exact ⟨j + 1, u0, u1, by omega, by go_num, HS6, SF6⟩
     case measure => simp [intOf]; omega
    ·obtain rfl : j = 4 := by omega
     have hsd := jG.out.below ((Below.refl wr.heap.size wr).drew)
     have q3 : wr.cell? ⟨w.heap.size, 3, none⟩ = some (.slice c2.al c2.lc.length c2.cl) := jG.out.words.2.2.2.1
     have aAZ : J < c2.lc.length := by omega
     have x3 : wr.cell? ⟨gl, J * 4 + 3, none⟩ = some (.slice c2.lc[J].a c2.lc[J].n c2.lc[J].c) := (jG.out.r.sZ EM.out aAZ).2.2.2
     rw [HRJ.out, HPA9.out] at x3
     rw [EM.out] at q3
     have wY : gl < wr.heap.size := by
      obtain ⟨gl', e1, e2, _⟩ := jG.out.r.oW (by show 0 < c2.lc.length; omega)
      rw [show c2.al = some ⟨gl', 0, none⟩ from e1] at EM
      obtain rfl : gl' = gl := by simpa using EM.out
      exact e2
     have hrow : Row wr.drew (some ⟨pb, jS, none⟩) (flat fK x.p) := by rw [← HPA9.out, ← VI.out]; exact aY (hsd.r.jJ r Xc.out)
     have hrow4 : Row wr.drew (some ⟨pb, jS + 4, none⟩) (flat fK (x.p.drop 4)) := by
      have h1 := dQ bM x.p 4
      rw [← h1]
      exact row_drop hrow 4
     have hx9 : x.p.length = 9 := by have := hx9; omega
     have hln : (x.p.drop 4).length = r.n - 4 := by rw [List.length_drop]; omega
     have Gm := gO hrow4
     have HSD := gO hsd
     have hfz : wr.frozen? ⟨gl, J * 4 + 3, none⟩ = false := by
      obtain ⟨gl', e1, _, _, _, e2⟩ := jG.out.r.oW (by show 0 < c2.lc.length; omega)
      rw [show c2.al = some ⟨gl', 0, none⟩ from e1] at EM
      obtain rfl : gl' = gl := by simpa using EM.out
      exact e2 _ (by show J * 4 + 3 < c2.lc.length * 4; omega)
     clear hrow hrow4 hsd
     go_wp2_with fail
     go_region_with (go_at_call 85; refine (Dv _ _ _ (x.p.drop 4) _ hln (by omega) Gm.out).mono ?_; rintro ev w14 ⟨a', c', rfl, ho, Bv⟩; have x3' := (Bv.cell (p := ⟨gl, J * 4 + 3, none⟩) wY).trans x3; have f3' := (Bv.frozen (p := ⟨gl, J * 4 + 3, none⟩) wY).trans hfz; have aA1 := gI wY Bv.size; have q3' := (Bv.cell (p := ⟨w.heap.size, 3, none⟩) Zv).trans q3)
     all_goals
      have hpg := HSD.out.page (i := J) aAZ (W' := w14) (r := ⟨{ x with p := x.p.drop 4 }, a', r.n - 4, c'⟩) ⟨Bv.os, Bv.tape, Bv.output, Bv.size, fun k hk _ => Bv.block k hk⟩ (own_base ho (Nat.zero_le _)) (by show x.c = c2.lc[J].l.c ∧ x.z = c2.lc[J].l.z ∧ x.t = c2.lc[J].l.t; rw [HRJ.out, VI.out]; exact ⟨rfl, rfl, rfl⟩) (fun k hk => .inr (ho.lt k hk).1) EM.out
      have aDV : ∃ (h8 : Hp) (c8 : Hc), HS (w14.setCell ⟨gl, J * 4 + 3, none⟩ (.slice a' (r.n - 4) c')) w.heap.size (fun k => k < OB.heap.size ∧ k ≠ w.heap.size) h8 c8 ∧ Safe (fun k => k < OB.heap.size ∧ k ≠ w.heap.size) wr.drew (w14.setCell ⟨gl, J * 4 + 3, none⟩ (.slice a' (r.n - 4) c')) ∧ h1.give cpu p = h8 := ⟨_, _, hpg.1, hpg.2, by
       rw [HGV1.out, if_pos h8, HJ.out, HH2.out, jB]
       simp only [HL2.out]⟩
      clear hpg ho
      obtain ⟨h8, c8, hs8, sf8, he8⟩ := aDV
      have vZ : Hid (∃ hi : lb h.live p < h.live.length, h.gX cpu (lb h.live p) h.live[lb h.live p] = h8) := by
       obtain ⟨h1i, h1e⟩ := HFR0.out
       exact ⟨h1i, by rw [h1e, he8]⟩
      have HS8 := gO hs8
      have SF8 := gO ((wZ.out.then ((Below.refl wr.heap.size wr).drew)).trans sf8)
      clear hs8 sf8 he8 x3' f3' aA1 q3' jG wZ HSD Gm Bv hfz q3 x3 wY
      generalize w14.setCell ⟨gl, J * 4 + 3, none⟩ (.slice a' (r.n - 4) c') = w8 at *
      have HB0 : w.heap.size ≤ w4.heap.size := by omega
      obtain ⟨⟨k10, k11, k12, k13, k14⟩, ⟨f10, f11, f12, f13, f14⟩, hsx, hbx, KX⟩ := ret5 HB4.out SF8.out HS8.out Xt.out Xu.out oH hX1 (fun k hk => ⟨by omega, by omega⟩) HB0 (Nat.le_succ _) (.slice c8.az 2 c8.cz) (.slice c8.am 2 c8.cm) (.int .i64 (h8.aF : Int)) (.slice c8.al c8.lc.length c8.cl) (.slice c8.av h8.live.length c8.cv)
      unfold put5 at hsx hbx
      have qJ := gO hsx
      have lI := gO hbx
      have hG8 : w.heap.size < w8.heap.size := HS8.out.r.gs
      have aAV : w.heap.size + 1 < w8.heap.size := by have := SF8.out.size; omega
      obtain ⟨q0, q1, q2, q3, q4⟩ := HS8.out.words
      unfold put5 at KX
      clear hsx hbx HS8 SF8
      go_wp2
      generalize (((((w8.setCell ⟨w.heap.size + 1, 0, none⟩ (.slice c8.az 2 c8.cz)).setCell ⟨w.heap.size + 1, 1, none⟩ (.slice c8.am 2 c8.cm)).setCell ⟨w.heap.size + 1, 2, none⟩ (.int .i64 (h8.aF : Int))).setCell ⟨w.heap.size + 1, 3, none⟩ (.slice c8.al c8.lc.length c8.cl)).setCell ⟨w.heap.size + 1, 4, none⟩ (.slice c8.av h8.live.length c8.cv)) = wx at *
      obtain ⟨hi', e⟩ := vZ.out
      refine bodyPost_ret (v := .tuple #[.agg #[.slice c8.az 2 c8.cz, .slice c8.am 2 c8.cm, .int .i64 (h8.aF : Int), .slice c8.al c8.lc.length c8.cl, .slice c8.av h8.live.length c8.cv], .int .i64 0]) (by simp [results, Tryz.results89, go_sem, KX]) rfl ?_
      first
       | exact ⟨lI.out, c8, hi', by rw [e]; rfl, by rw [e]; exact qJ.out.r.sub (fun k hk => ⟨by omega, by omega⟩)⟩
       | exact ⟨lI.out, c8, by rw [e]; rfl, by rw [e]; exact qJ.out.r.sub (fun k hk => ⟨by omega, by omega⟩)⟩
  ·have aDT : ¬ (8 : Int) < r.n := by omega
   have vZ : Hid (∃ hi : lb h.live p < h.live.length, h.gX cpu (lb h.live p) h.live[lb h.live p] = h2) := by
    obtain ⟨h1i, h1e⟩ := HFR0.out
    exact ⟨h1i, by rw [h1e, HGV1.out, if_neg h8, HH2.out]⟩
   go_upto_region 27 with fail
   clear k0 k1 k2 k3 k4 x0 x1 x2 x3 hgl wY Ed
   have HB00 : w.heap.size ≤ w4.heap.size := by omega
   obtain ⟨⟨k10, k11, k12, k13, k14⟩, ⟨f10, f11, f12, f13, f14⟩, hsx, hbx, KX⟩ := ret5 HB4.out SF12.out HS12.out Xt.out Xu.out oH hX1 (fun k hk => ⟨by omega, by omega⟩) HB00 (Nat.le_succ _) (.slice c2.az 2 c2.cz) (.slice c2.am 2 c2.cm) (.int .i64 (h2.aF : Int)) (.slice c2.al c2.lc.length c2.cl) (.slice c2.av h2.live.length c2.cv)
   unfold put5 at hsx hbx
   have qJ := gO hsx
   have lI := gO hbx
   have hG8 : w.heap.size < w12.heap.size := HS12.out.r.gs
   have aAV : w.heap.size + 1 < w12.heap.size := by have := SF12.out.size; omega
   obtain ⟨q0, q1, q2, q3, q4⟩ := HS12.out.words
   unfold put5 at KX
   clear hsx hbx HS12 SF12
   go_wp2
   generalize (((((w12.setCell ⟨w.heap.size + 1, 0, none⟩ (.slice c2.az 2 c2.cz)).setCell ⟨w.heap.size + 1, 1, none⟩ (.slice c2.am 2 c2.cm)).setCell ⟨w.heap.size + 1, 2, none⟩ (.int .i64 (h2.aF : Int))).setCell ⟨w.heap.size + 1, 3, none⟩ (.slice c2.al c2.lc.length c2.cl)).setCell ⟨w.heap.size + 1, 4, none⟩ (.slice c2.av h2.live.length c2.cv)) = wx at *
   obtain ⟨hi', e⟩ := vZ.out
   refine bodyPost_ret (v := .tuple #[.agg #[.slice c2.az 2 c2.cz, .slice c2.am 2 c2.cm, .int .i64 (h2.aF : Int), .slice c2.al c2.lc.length c2.cl, .slice c2.av h2.live.length c2.cv], .int .i64 0]) (by simp [results, Tryz.results89, go_sem, KX]) rfl ?_
   first
    | exact ⟨lI.out, c2, hi', by rw [e]; rfl, by rw [e]; exact qJ.out.r.sub (fun k hk => ⟨by omega, by omega⟩)⟩
    | exact ⟨lI.out, c2, by rw [e]; rfl, by rw [e]; exact qJ.out.r.sub (fun k hk => ⟨by omega, by omega⟩)⟩
end
end Go.Proofs.YtcmpmobhongkiaaGreatDoor
