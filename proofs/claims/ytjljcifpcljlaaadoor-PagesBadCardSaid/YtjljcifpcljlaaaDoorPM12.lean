/- Pp17: texts of this claim, joined. -/
import Derived.Test.YtjljcifpcljlaaaDoorPM10
import Derived.Test.YtjljcifpcljlaaaDoorPM11
import Derived.Test.YtjljcifpcljlaaaDoorPM4
import Derived.Test.YtjljcifpcljlaaaDoorPM6
/- Contract of package pages: Free (printed by tools/free.py). -/
namespace Go.Proofs.YtjljcifpcljlaaaDoor
open Go.RowKit
set_option linter.unusedVariables false

theorem row_drop {w : World} {b o : Nat} {xs : List Value} (h : Row w (some ⟨b, o, none⟩) xs) (k : Nat) : Row w (some ⟨b, o + k, none⟩) (xs.drop k) := by
  intro j v hj
  rw [List.getElem?_drop] at hj
  obtain ⟨b', o', e, h1, h2⟩ := h _ v hj
  obtain ⟨rfl, rfl⟩ : b = b' ∧ o = o' := by simpa using e
  exact ⟨b, o + k, rfl, h1, by rw [Nat.add_assoc]; exact h2⟩

set_option maxHeartbeats 8000000 in
set_option maxRecDepth 100000 in
theorem freeH_pg (az am al av : Option Addr) (cz cm cl cv nl nv : Nat) (y0 y1 : Zc) (lc : List Lc) (h : Hp) (cpu p : Nat) (w : World) (hh : HAt w az am al av nl nv y0 y1 lc h) (hk : HOk h) (hnl : nl ≤ 1000) (hnv : nv ≤ 1000) (hc : cpu < h.cpus) (hp : p ≤ 1000) (hth : hasB h.live p = true) :
    Calls Tryd.prog 26 #[.agg #[.slice az 2 cz, .slice am 2 cm, .int .i64 h.cpus, .slice al nl cl, .slice av nv cv], .int .i64 cpu, .int .i64 p] w fun ev w' => Below w.heap.size w w' ∧ ∃ (c' : Hc) (hi : lb h.live p < h.live.length), ev = .returned (.tuple #[.agg (c'.vals (h.freeB cpu (lb h.live p) h.live[lb h.live p])), .int .i64 0]) ∧ HNew w' w.heap.size (h.freeB cpu (lb h.live p) h.live[lb h.live p]) c' := by
  have HTH := Hid.mk hth
  clear hth
  obtain ⟨K1, K2, F1, F2, hsz, hbw⟩ := boxes2 w #[.slice az 2 cz, .slice am 2 cm, .int .i64 (h.cpus : Int), .slice al nl cl, .slice av nv cv] 34 #[.slice none 0 0, .slice none 0 0, .int .i64 0, .slice none 0 0, .slice none 0 0] 34
  have HH := Hid.mk (hh.below hbw)
  have HK := Hid.mk hk
  have HB1 := Hid.mk hbw
  have HLV : Hid (h.live.length ≤ 1000) := by unfold Hid; rw [hh.nv]; exact hnv
  have k10 := K1 0
  have k11 := K1 1
  have k12 := K1 2
  have k13 := K1 3
  have k14 := K1 4
  simp only [List.getElem?_toArray, List.getElem?_cons_zero, List.getElem?_cons_succ] at k10 k11 k12 k13 k14
  clear hh hk hbw
  go_enter Tryd.func26, Tryd.ntmps26
  go_wp2_with fail
  generalize (w.alloc (.cells #[.slice az 2 cz, .slice am 2 cm, .int .i64 (h.cpus : Int), .slice al nl cl, .slice av nv cv] 34)).alloc (.cells #[.slice none 0 0, .slice none 0 0, .int .i64 0, .slice none 0 0, .slice none 0 0] 34) = w1 at *
  refine (checkH_pg _ _ _ _ _ _ _ _ _ _ _ _ _ h w1 HH.out HK.out hnl hnv).mono ?_
  rintro ev w2 ⟨rfl, hb2⟩
  have K1a := box_step K1 (by omega) hb2
  have F1a := frz_step F1 (by omega) hb2
  have K2a := box_step K2 hsz hb2
  have F2a := frz_step F2 hsz hb2
  have HH2 := Hid.mk (HH.out.below hb2)
  have HB2 := Hid.mk (Below.trans HB1.out (hb2.mono HB1.out.size))
  have hsz2 : w.heap.size + 1 < w2.heap.size := Nat.lt_of_lt_of_le hsz hb2.size
  clear k10 k11 k12 k13 k14 hb2 K1 F1 K2 F2
  have k10 := K1a 0
  have k11 := K1a 1
  have k12 := K1a 2
  have k13 := K1a 3
  have k14 := K1a 4
  simp only [List.getElem?_toArray, List.getElem?_cons_zero, List.getElem?_cons_succ] at k10 k11 k12 k13 k14
  have d1 : decide ((cpu : Int) < 0) = false := decide_eq_false (by omega)
  have d2 : decide (h.cpus ≤ cpu) = false := decide_eq_false (by omega)
  go_wp2_with fail
  refine (live_pg _ _ _ _ _ _ _ _ _ _ _ _ _ h p w2 HH2.out HK.out hnv hp).mono ?_
  rintro ev w2l ⟨rfl, hb2l⟩
  rw [HTH.out]
  have K1l := box_step K1a (by omega) hb2l
  have F1l := frz_step F1a (by omega) hb2l
  have K2l := box_step K2a hsz2 hb2l
  have F2l := frz_step F2a hsz2 hb2l
  have HH2l := Hid.mk (HH2.out.below hb2l)
  have HB2l := Hid.mk (Below.trans HB2.out (hb2l.mono HB2.out.size))
  have hsz2l : w.heap.size + 1 < w2l.heap.size := Nat.lt_of_lt_of_le hsz2 hb2l.size
  clear k10 k11 k12 k13 k14 hb2l K1a F1a K2a F2a HH2 HB2 hsz2
  have k10 := K1l 0
  have k11 := K1l 1
  have k12 := K1l 2
  have k13 := K1l 3
  have k14 := K1l 4
  simp only [List.getElem?_toArray, List.getElem?_cons_zero, List.getElem?_cons_succ] at k10 k11 k12 k13 k14
  go_wp2_with fail
  refine (copyH_pg _ _ _ _ _ _ _ _ _ _ _ _ _ h w2l HH2l.out HK.out hnv).mono ?_
  rintro ev w3 ⟨g, c, rfl, hs3, hg3, hb3⟩
  have K1b := box_step K1l (by omega) hb3
  have F1b := frz_step F1l (by omega) hb3
  have K2b := Hid.mk (box_step K2l hsz2l hb3)
  have F2b := Hid.mk (frz_step F2l hsz2l hb3)
  have HS4 := Hid.mk (hs3.move (B := w.heap.size) (show w.heap.size < w2l.heap.size by omega) K1b F1b)
  have HB3 := Hid.mk (Below.trans HB2l.out (hb3.mono HB2l.out.size))
  clear k10 k11 k12 k13 k14 K1l F1l K2l F2l hs3 HH HH2l hg3
  have k10 := K1b 0
  have k11 := K1b 1
  have k12 := K1b 2
  have k13 := K1b 3
  have k14 := K1b 4
  have f10 := F1b 0
  have f11 := F1b 1
  have f12 := F1b 2
  have f13 := F1b 3
  have f14 := F1b 4
  simp only [List.getElem?_toArray, List.getElem?_cons_zero, List.getElem?_cons_succ] at k10 k11 k12 k13 k14
  unfold Hc.vals
  go_upto_region 10 with fail
  have HS4' : Hid (HS (((((w3.setCell ⟨w.heap.size, 0, none⟩ (.slice c.az 2 c.cz)).setCell ⟨w.heap.size, 1, none⟩ (.slice c.am 2 c.cm)).setCell ⟨w.heap.size, 2, none⟩ (.int .i64 (h.cpus : Int))).setCell ⟨w.heap.size, 3, none⟩ (.slice c.al c.lc.length c.cl)).setCell ⟨w.heap.size, 4, none⟩ (.slice c.av h.live.length c.cv)) w.heap.size (fun k => k < w2l.heap.size ∧ k ≠ w.heap.size) h c) := HS4
  have hne1 : w.heap.size + 1 ≠ w.heap.size := by omega
  have K2c := Hid.mk (box_set_other (box_set_other (box_set_other (box_set_other (box_set_other K2b.out hne1 0 (.slice c.az 2 c.cz)) hne1 1 (.slice c.am 2 c.cm)) hne1 2 (.int .i64 (h.cpus : Int))) hne1 3 (.slice c.al c.lc.length c.cl)) hne1 4 (.slice c.av h.live.length c.cv))
  have F2c := Hid.mk (frz_set (frz_set (frz_set (frz_set (frz_set F2b.out ⟨w.heap.size, 0, none⟩ (.slice c.az 2 c.cz)) ⟨w.heap.size, 1, none⟩ (.slice c.am 2 c.cm)) ⟨w.heap.size, 2, none⟩ (.int .i64 (h.cpus : Int))) ⟨w.heap.size, 3, none⟩ (.slice c.al c.lc.length c.cl)) ⟨w.heap.size, 4, none⟩ (.slice c.av h.live.length c.cv))
  have hle0 : w.heap.size ≤ w.heap.size := Nat.le_refl _
  have HB4 := Hid.mk (Below.setCell (Below.setCell (Below.setCell (Below.setCell (Below.setCell HB3.out (show w.heap.size ≤ (⟨w.heap.size, 0, none⟩ : Addr).block from hle0) (.slice c.az 2 c.cz)) (show w.heap.size ≤ (⟨w.heap.size, 1, none⟩ : Addr).block from hle0) (.slice c.am 2 c.cm)) (show w.heap.size ≤ (⟨w.heap.size, 2, none⟩ : Addr).block from hle0) (.int .i64 (h.cpus : Int))) (show w.heap.size ≤ (⟨w.heap.size, 3, none⟩ : Addr).block from hle0) (.slice c.al c.lc.length c.cl)) (show w.heap.size ≤ (⟨w.heap.size, 4, none⟩ : Addr).block from hle0) (.slice c.av h.live.length c.cv))
  have hsz4 : w.heap.size + 1 < (((((w3.setCell ⟨w.heap.size, 0, none⟩ (.slice c.az 2 c.cz)).setCell ⟨w.heap.size, 1, none⟩ (.slice c.am 2 c.cm)).setCell ⟨w.heap.size, 2, none⟩ (.int .i64 (h.cpus : Int))).setCell ⟨w.heap.size, 3, none⟩ (.slice c.al c.lc.length c.cl)).setCell ⟨w.heap.size, 4, none⟩ (.slice c.av h.live.length c.cv)).heap.size := by have := hb3.size; simp; omega
  clear k10 k11 k12 k13 k14 f10 f11 f12 f13 f14 K1b F1b K2b F2b HS4 hb3 HB3
  generalize (((((w3.setCell ⟨w.heap.size, 0, none⟩ (.slice c.az 2 c.cz)).setCell ⟨w.heap.size, 1, none⟩ (.slice c.am 2 c.cm)).setCell ⟨w.heap.size, 2, none⟩ (.int .i64 (h.cpus : Int))).setCell ⟨w.heap.size, 3, none⟩ (.slice c.al c.lc.length c.cl)).setCell ⟨w.heap.size, 4, none⟩ (.slice c.av h.live.length c.cv)) = w4 at *
  have hX1 : (fun k => k < w2l.heap.size ∧ k ≠ w.heap.size) (w.heap.size + 1) := ⟨hsz2l, hne1⟩
  obtain ⟨I, hI⟩ : ∃ I, lb h.live p = I := ⟨_, rfl⟩
  obtain ⟨hi, hpa⟩ := hasB_true HK.out.vs HTH.out
  simp only [hI] at hi hpa ⊢
  have HI := Hid.mk hI
  obtain ⟨b, hb⟩ : ∃ b, h.live[I] = b := ⟨_, rfl⟩
  have HBI := Hid.mk hb
  rw [hb] at hpa
  have hlv := HS4'.out.r.lv
  obtain ⟨gv, _, hgv, _, hgvs, _, _⟩ := own_cell hlv 0 (by show 0 < (flat encBk h.live).length; rw [flat_length encBk_length]; omega)
  obtain ⟨pb, po, hpv, hpb, hpc⟩ := row_elem encBk_length (by decide) (own_row hlv) hi
  obtain ⟨rfl, rfl⟩ : gv = pb ∧ 0 = po := by rw [hgv] at hpv; simpa using hpv
  rw [hb] at hpc
  obtain ⟨v0, v1, v2⟩ := encBk_cells hpc
  simp only [Nat.zero_add] at v0 v1 v2
  have hI2 : (I : Int) < h.live.length := by omega
  obtain ⟨k0, k1, k2, k3, k4⟩ := HS4'.out.words
  have hG4 : w.heap.size < w4.heap.size := HS4'.out.r.gs
  rw [hgv] at k4
  have HGV := Hid.mk hgv
  have hnv4 := HLV.out
  clear hlv hpv hpc hI hb
  go_upto_region 11 with fail
  have hbw5 := below_alloc w4 (.cells #[.int .i64 (p : Int), .int .i64 (b.o : Int), .int .i64 (b.t : Int)] 40)
  have HS5 := Hid.mk (HS4'.out.new hbw5)
  have SF5 := Hid.mk (Safe.ofBelow (X := fun k => k < w2l.heap.size ∧ k ≠ w.heap.size) hbw5)
  have K5 : Hid (∀ o, (w4.alloc (.cells #[.int .i64 (p : Int), .int .i64 (b.o : Int), .int .i64 (b.t : Int)] 40)).cell? ⟨w4.heap.size, o, none⟩ = (#[.int .i64 (p : Int), .int .i64 (b.o : Int), .int .i64 (b.t : Int)] : Array Value)[o]?) := box_new w4 _ _
  have hsz5 : w4.heap.size < (w4.alloc (.cells #[.int .i64 (p : Int), .int .i64 (b.o : Int), .int .i64 (b.t : Int)] 40)).heap.size := by simp
  clear k0 k1 k2 k3 k4 v0 v1 v2 hbw5 HS4'
  generalize w4.alloc (.cells #[.int .i64 (p : Int), .int .i64 (b.o : Int), .int .i64 (b.t : Int)] 40) = w5 at *
  obtain ⟨k0, k1, k2, k3, k4⟩ := HS5.out.words
  rw [HGV.out] at k4
  have hG5 : w.heap.size < w5.heap.size := HS5.out.r.gs
  go_wp2_with fail
  have hlv := HS5.out.r.lv
  rw [show lvR c h = ⟨40, 3, .slice c.av h.live.length c.cv, h.live.length, flat encBk h.live⟩ from rfl] at hlv
  unfold Rs.on at hlv
  simp only [HGV.out] at hlv
  refine (delete_bk 0 (some ⟨gv, 0, none⟩) h.live.length c.cv h.live I w5 hlv hi hnv4 (Nat.zero_le _)).mono ?_
  rintro ev w6 ⟨rfl, ho6, hg6⟩
  have hle : (h.live.eraseIdx I).length = h.live.length - 1 := List.length_eraseIdx_of_lt hi
  have hlb : (lvR c h).v.ownBlock = some gv := by unfold lvR; rw [HGV.out]; rfl
  have hg6' : w5.grownBy w6 (lvR c h).v.ownBlock := by rw [hlb]; exact hg6
  have hneG : some w.heap.size ≠ (lvR c h).v.ownBlock := fun e => (HS5.out.r.og _ (rows_lv c h) _ e.symm).1 rfl
  obtain ⟨hs7, sf7⟩ := HS5.out.away hg6' (av' := some ⟨gv, 0, none⟩) (cv' := c.cv) (v' := h.live.eraseIdx I) (by rw [hle]; exact ho6) (fun k hk => .inl (by rw [hlb]; simpa [Value.ownBlock] using hk))
  rw [hle] at hs7 sf7
  have r4 := (box_grown HS5.out.k hG5 hg6' hneG 4).trans (show _ = some (.slice c.av h.live.length c.cv) from rfl)
  have g4 := frz_grown HS5.out.fz hG5 hg6' hneG 4
  rw [HGV.out] at r4
  have hG6 : w.heap.size < w6.heap.size := Nat.lt_of_lt_of_le hG5 hg6'.size
  have SF7 := Hid.mk (SF5.out.trans (sf7.sub (fun k _ hk => .inl hk)))
  have K7 := sf7.box K5.out hsz5 (.inr ⟨Nat.le_refl _, hsz5⟩)
  have HS7 := Hid.mk hs7
  have HLE := Hid.mk hle
  clear k0 k1 k2 k3 k4 hs7 sf7 ho6 hg6 hg6' hneG hlb hle K5 HS5 SF5
  have b0 := K7 0
  have b1 := K7 1
  have b2 := K7 2
  simp only [List.getElem?_toArray, List.getElem?_cons_zero, List.getElem?_cons_succ] at b0 b1 b2
  go_upto_region 12 with fail
  generalize w6.setCell ⟨w.heap.size, 4, none⟩ (.slice (some ⟨gv, 0, none⟩) (h.live.length - 1) c.cv) = w7 at *
  obtain ⟨hk1, hce⟩ := HK.out.erase hi
  rw [HBI.out] at hce
  have hfb := HK.out.lv _ (List.getElem_mem hi)
  rw [HBI.out] at hfb
  obtain ⟨h1, hh1⟩ : ∃ h1 : Hp, { h with live := h.live.eraseIdx I } = h1 := ⟨_, rfl⟩
  obtain ⟨c1, hc1⟩ : ∃ c1 : Hc, { c with av := some ⟨gv, 0, none⟩ } = c1 := ⟨_, rfl⟩
  have HC1 : Hid (h1.cpus = h.cpus ∧ h1.live.length = h.live.length - 1) := by rw [← hh1]; exact ⟨rfl, HLE.out⟩
  rw [show ({ z0 := h.z0, z1 := h.z1, m0 := h.m0, m1 := h.m1, cpus := h.cpus, ls := h.ls, live := h.live.eraseIdx I } : Hp) = h1 from hh1, show ({ az := c.az, cz := c.cz, am := c.am, cm := c.cm, al := c.al, cl := c.cl, av := some ⟨gv, 0, none⟩, cv := c.cv, y0 := c.y0, y1 := c.y1, lc := c.lc } : Hc) = c1 from hc1] at HS7
  rw [hh1] at hk1 hce
  have HH1 := Hid.mk hh1
  have HK1 := Hid.mk hk1
  have HCE := Hid.mk hce
  have HFB := Hid.mk hfb
  have hX2 : (fun k => k < w2l.heap.size ∧ k ≠ w.heap.size ∨ w4.heap.size ≤ k ∧ k < w5.heap.size) w4.heap.size := .inr ⟨Nat.le_refl _, hsz5⟩
  have hs47 : w4.heap.size < w7.heap.size := HS7.out.r.xs _ hX2
  clear HLE hh1 hc1 hk1 hce hfb r4 g4 hG6
  by_cases ho : 0 < b.o
  · have hoi : (0 : Int) < b.o := by omega
    go_wp2_with fail
    have hdj : ∀ q, cnt h1.all q + hit ⟨p, b.o, 0⟩ q ≤ 1 := fun q => by have h1 := HCE.out q; have h2 := HK.out.one q; rw [hpa] at h1; omega
    have hft : fitsB 0 256 p b.o := by rw [← hpa]; exact HFB.out.1
    refine (back_pg w.heap.size p b.o _ h1 c1 w7 HS7.out HK1.out hft hdj).mono ?_
    rintro ev w8 ⟨rfl, ⟨y8, y9, hs8⟩, sf8⟩
    have HFR : Hid (∃ hi : lb h.live p < h.live.length, h.freeB cpu (lb h.live p) h.live[lb h.live p] = h1.backB p b.o) := ⟨by rw [HI.out]; exact hi, by
      simp only [HI.out, HBI.out]
      rw [freeB_big ho, ← HH1.out, hpa]⟩
    have SF8 := Hid.mk (SF7.out.trans (sf8.sub fun k _ hk => .inl hk))
    have HS8 := Hid.mk hs8
    clear hs8 sf8 hdj hft
    generalize ({ c1 with y0 := y8, y1 := y9 } : Hc) = c8 at *
    generalize h1.backB p b.o = h8 at *
    have HB0 : w.heap.size ≤ w4.heap.size := by omega
    obtain ⟨⟨k10, k11, k12, k13, k14⟩, ⟨f10, f11, f12, f13, f14⟩, hsx, hbx, KX⟩ := ret5 HB4.out SF8.out (HS8.out.sub fun k hk => .inl hk) K2c.out F2c.out hsz4 hX1 (fun k hk => ⟨by omega, by omega⟩) HB0 (Nat.le_succ _) (.slice c8.az 2 c8.cz) (.slice c8.am 2 c8.cm) (.int .i64 (h8.cpus : Int)) (.slice c8.al c8.lc.length c8.cl) (.slice c8.av h8.live.length c8.cv)
    unfold put5 at hsx hbx
    have HSX := Hid.mk hsx
    have HBX := Hid.mk hbx
    have hG8 : w.heap.size < w8.heap.size := HS8.out.r.gs
    have hG81 : w.heap.size + 1 < w8.heap.size := by have := SF8.out.size; omega
    obtain ⟨q0, q1, q2, q3, q4⟩ := HS8.out.words
    unfold put5 at KX
    clear hsx hbx HS8 SF8 HS7 SF7
    go_wp2
    generalize (((((w8.setCell ⟨w.heap.size + 1, 0, none⟩ (.slice c8.az 2 c8.cz)).setCell ⟨w.heap.size + 1, 1, none⟩ (.slice c8.am 2 c8.cm)).setCell ⟨w.heap.size + 1, 2, none⟩ (.int .i64 (h8.cpus : Int))).setCell ⟨w.heap.size + 1, 3, none⟩ (.slice c8.al c8.lc.length c8.cl)).setCell ⟨w.heap.size + 1, 4, none⟩ (.slice c8.av h8.live.length c8.cv)) = wx at *
    obtain ⟨hi', e⟩ := HFR.out
    refine bodyPost_ret (v := .tuple #[.agg #[.slice c8.az 2 c8.cz, .slice c8.am 2 c8.cm, .int .i64 (h8.cpus : Int), .slice c8.al c8.lc.length c8.cl, .slice c8.av h8.live.length c8.cv], .int .i64 0]) (by simp [results, Tryd.results26, go_sem, KX]) rfl ⟨HBX.out, c8, hi', ?_⟩
    rw [e]
    exact ⟨rfl, HSX.out.r.sub (fun k hk => ⟨by omega, by omega⟩)⟩
  · have ho0 : b.o = 0 := by omega
    rw [ho0] at b1
    have hp256 : p < 256 := by have := HFB.out.1.2.2.1; rw [hpa] at this; exact this
    have hdj : ∀ q, cnt h1.all q + hit ⟨p, 0, 0⟩ q ≤ 1 := fun q => by have h1 := HCE.out q; have h2 := HK.out.one q; rw [hpa, ho0] at h1; omega
    have HFR0 : Hid (∃ hi : lb h.live p < h.live.length, h.freeB cpu (lb h.live p) h.live[lb h.live p] = h1.give cpu p) := ⟨by rw [HI.out]; exact hi, by
      simp only [HI.out, HBI.out]
      rw [freeB_one ho0, ← HH1.out, hpa]⟩
    have hc1 : cpu < h1.cpus := by rw [HC1.out.1]; exact hc
    obtain ⟨L, hL⟩ : ∃ L : Ls, L = ⟨cpu, h1.zof p, h1.typ p, []⟩ := ⟨_, rfl⟩
    have HGIV := Hid.mk (HK1.out.giving hc1 hp256 hdj hL)
    have HLL := Hid.mk hL
    clear hL
    have hzi : h1.zof p < 2 := by unfold Hp.zof; split <;> omega
    have hfz := HK1.out.fits (fits_page hp256)
    have HZK := Hid.mk (HK1.out.zone (h1.zof p))
    have HTL := Hid.mk (HK1.out.typ_lt p)
    clear hdj
    obtain ⟨k0, k1, k2, k3, k4⟩ := HS7.out.words
    have hG7 : w.heap.size < w7.heap.size := HS7.out.r.gs
    go_wp2_with fail
    refine (zone_pg _ _ _ _ _ _ _ _ _ _ _ _ _ h1 p w7 HS7.out.r.at).mono ?_
    rintro ev w8 ⟨rfl, hb8⟩
    have HS8 := Hid.mk (HS7.out.below hb8)
    have SF8 := Hid.mk (SF7.out.then hb8)
    have hs48 : w4.heap.size < w8.heap.size := Nat.lt_of_lt_of_le hs47 hb8.size
    obtain ⟨gz, hgz, hgzs, _, _, _⟩ := HS8.out.r.zblock
    obtain ⟨z0, z1, z2, z3⟩ := HS8.out.r.zcells hgz hzi
    have HZA := Hid.mk (HS8.out.r.zat hzi)
    have HTY : Hid ((h1.zone (h1.zof p)).y.getD ((p - (h1.zone (h1.zof p)).f) / 8) 0 = h1.typ p) := rfl
    clear K7 b0 b1 b2 k0 k1 k2 k3 k4 hb8 HS7 SF7 hs47 hG7
    obtain ⟨k0, k1, k2, k3, k4⟩ := HS8.out.words
    rw [hgz] at k0
    have hG8 : w.heap.size < w8.heap.size := HS8.out.r.gs
    have hzi2 : ((h1.zof p : Nat) : Int) < 2 := by omega
    go_upto_region 16 with fail
    obtain ⟨zi, hzz⟩ : ∃ zi, h1.zof p = zi := ⟨_, rfl⟩
    have HZZ := Hid.mk hzz
    rw [hzz] at z0 z1 z2 z3 HZA HTY hfz HZK hzi2 hzi ⊢
    generalize c1.zone zi = y at *
    generalize h1.zone zi = z at *
    go_wp2_with fail
    refine (typeAt_ok _ _ _ _ _ _ z p w8 HZA.out HZK.out hfz.2.1 hfz.2.2.1).mono ?_
    rintro ev w9 ⟨rfl, hb9⟩
    rw [HTY.out]
    have HS9 := Hid.mk (HS8.out.below hb9)
    have SF9 := Hid.mk (SF8.out.then hb9)
    have hs49 : w4.heap.size < w9.heap.size := Nat.lt_of_lt_of_le hs48 hb9.size
    obtain ⟨ti, hti⟩ : ∃ ti, h1.typ p = ti := ⟨_, rfl⟩
    have HTI := Hid.mk hti
    rw [hti] at HTL ⊢
    clear k0 k1 k2 k3 k4 z0 z1 z2 z3 HZA hfz HZK HTY hgz hgzs hb9 HS8 SF8 hs48 hG8 hti hzz
    have hG9 : w.heap.size < w9.heap.size := HS9.out.r.gs
    go_upto_region 18 with fail
    have hbl := below_alloc w9 (.cells #[.int .i64 (cpu : Int), .int .i64 (zi : Int), .int .i64 (ti : Int), .slice none 0 0] 66)
    have HS10 := Hid.mk (HS9.out.new hbl)
    have SF10 := Hid.mk (SF9.out.then hbl)
    have KL : Hid (∀ o, (w9.alloc (.cells #[.int .i64 (cpu : Int), .int .i64 (zi : Int), .int .i64 (ti : Int), .slice none 0 0] 66)).cell? ⟨w9.heap.size, o, none⟩ = (#[.int .i64 (cpu : Int), .int .i64 (zi : Int), .int .i64 (ti : Int), .slice none 0 0] : Array Value)[o]?) := box_new w9 _ _
    have hszL : w9.heap.size < (w9.alloc (.cells #[.int .i64 (cpu : Int), .int .i64 (zi : Int), .int .i64 (ti : Int), .slice none 0 0] 66)).heap.size := by simp
    clear hbl HS9 SF9
    generalize w9.alloc (.cells #[.int .i64 (cpu : Int), .int .i64 (zi : Int), .int .i64 (ti : Int), .slice none 0 0] 66) = w10 at *
    have l0 := KL.out 0
    have l1 := KL.out 1
    have l2 := KL.out 2
    have l3 := KL.out 3
    simp only [List.getElem?_toArray, List.getElem?_cons_zero, List.getElem?_cons_succ] at l0 l1 l2 l3
    obtain ⟨hlr, hrise, hzts, hlen, hhas, x, hx, hxk, hx9, hgive, _, _, hready⟩ := HGIV.out
    have hLc : L.c = cpu ∧ L.z = zi ∧ L.t = ti := by rw [HLL.out]; exact ⟨rfl, HZZ.out, HTI.out⟩
    have HRISE := Hid.mk hrise
    have HZTS := Hid.mk hzts
    have HLEN := Hid.mk hlen
    have HHAS := Hid.mk hhas
    have HX := Hid.mk hx
    have HXK := Hid.mk hxk
    have HGV1 := Hid.mk hgive
    have HRDY := Hid.mk hready
    have HLC := Hid.mk hLc
    clear hlr hrise hzts hlen hhas hx hxk hgive hready hLc HGIV
    go_wp2_with fail
    have hpush := push_pg w.heap.size p L none 0 0 _ h1 c1 w10 HS10.out HK1.out ⟨by rw [HLC.out.2.1]; exact hzi, by rw [HLC.out.2.2]; exact HTL.out⟩
    rw [HLC.out.1, HLC.out.2.1, HLC.out.2.2] at hpush
    refine hpush.mono ?_
    rintro ev w11 ⟨rfl, ⟨al2, cl2, lc2, hs11⟩, sf11⟩
    obtain ⟨h2, hh2⟩ : ∃ h2 : Hp, { h1 with ls := pushL h1.ls L p } = h2 := ⟨_, rfl⟩
    obtain ⟨c2, hc2⟩ : ∃ c2 : Hc, { c1 with al := al2, cl := cl2, lc := lc2 } = c2 := ⟨_, rfl⟩
    rw [hh2, hc2] at hs11
    have HL2 : Hid (h2.ls = pushL h1.ls L p) := by rw [← hh2]; rfl
    have HH2 := Hid.mk hh2
    have HS11 := Hid.mk (hs11.sub (Y := fun k => k < w2l.heap.size ∧ k ≠ w.heap.size) fun k hk => .inl (.inl hk))
    have SF11 := Hid.mk (SF10.out.trans (sf11.sub fun k _ hk => .inl (.inl hk)))
    have KL11 := sf11.box KL.out hszL (.inr ⟨Nat.le_refl _, hszL⟩)
    have hsz11 : w9.heap.size < w11.heap.size := Nat.lt_of_lt_of_le hszL sf11.size
    have hl24 : c2.lc.length ≤ 24 := by rw [lc_len hs11.r, HL2.out]; exact HLEN.out
    have hlc2 := Hid.mk (lc_len hs11.r)
    clear l0 l1 l2 l3 hpush hs11 sf11 HS10 SF10 KL hc2 hh2 hG9 hs49 hszL
    have l0 := KL11 0
    have l1 := KL11 1
    have l2 := KL11 2
    have l3 := KL11 3
    simp only [List.getElem?_toArray, List.getElem?_cons_zero, List.getElem?_cons_succ] at l0 l1 l2 l3
    obtain ⟨k0, k1, k2, k3, k4⟩ := HS11.out.words
    have hG11 : w.heap.size < w11.heap.size := HS11.out.r.gs
    go_wp2_with fail
    have hlist := list_gen c2.az c2.am c2.al c2.av c2.cz c2.cm c2.cl c2.cv c2.lc.length h2.live.length c2.y0 c2.y1 c2.lc h2 L none 0 0 w11 HS11.out.r.at (by rw [HL2.out]; exact HRISE.out) (by rw [HL2.out]; exact HZTS.out) ⟨by rw [HLC.out.2.1]; exact hzi, by rw [HLC.out.2.2]; exact HTL.out⟩ (by omega)
    rw [HLC.out.1, HLC.out.2.1, HLC.out.2.2, HL2.out, HHAS.out] at hlist
    refine hlist.mono ?_
    rintro ev w12 ⟨rfl, hb12⟩
    have HS12 := Hid.mk (HS11.out.below hb12)
    have SF12 := Hid.mk (SF11.out.then hb12)
    obtain ⟨J, hJ⟩ : ∃ J, lbL (pushL h1.ls L p) L.key = J := ⟨_, rfl⟩
    have HJ := Hid.mk hJ
    rw [hJ]
    have hx2 : h2.ls[J]? = some x := by rw [← hJ, HL2.out]; exact HX.out
    obtain ⟨hJ2, hxJ⟩ := List.getElem?_eq_some_iff.1 hx2
    have hJc : J < c2.lc.length := by rw [hlc2.out]; exact hJ2
    have hcx : c2.lc[J].l = x := by rw [← hxJ]; exact lc_get HS12.out.r hJc hJ2
    obtain ⟨r, hr⟩ : ∃ r, c2.lc[J] = r := ⟨_, rfl⟩
    have HRJ := Hid.mk hr
    rw [hr] at hcx
    have hrm : r ∈ c2.lc := by rw [← hr]; exact List.getElem_mem hJc
    have hrn := pg_len (HS12.out.r.pgs r hrm)
    rw [hcx] at hrn
    obtain ⟨gl, hgl, hgls, hglG, hglX, hglf⟩ := HS12.out.r.lblock (by omega)
    obtain ⟨x0, x1, x2, x3⟩ := HS12.out.r.lcells hgl hJc
    rw [hr] at x0 x1 x2 x3
    have hJi : (J : Int) < c2.lc.length := by omega
    have HGL := Hid.mk hgl
    have HCX := Hid.mk hcx
    have HRM := Hid.mk hrm
    have HX2 := Hid.mk hx2
    clear k0 k1 k2 k3 k4 l0 l1 l2 l3 hlist hb12 HS11 SF11 hG11 KL11 hcx hr hJ hx2 hxJ hrm
    obtain ⟨k0, k1, k2, k3, k4⟩ := HS12.out.words
    have hG12 : w.heap.size < w12.heap.size := HS12.out.r.gs
    rw [hgl] at k3
    go_upto_region 20 with fail
    by_cases h8 : 8 < x.p.length
    · have hrn8 : (8 : Int) < r.n := by omega
      have hrc := own_cap (HS12.out.r.pgs r HRM.out)
      obtain ⟨pb, poff, hpa9, _, _⟩ := row_elem encT_length (by decide) (own_row (HS12.out.r.pgs r HRM.out)) (j := 0) (by show 0 < r.l.p.length; rw [HCX.out]; omega)
      rw [hpa9] at x3
      have HPA9 := Hid.mk hpa9
      have hc4 : 4 ≤ r.c := by omega
      have hn4 : 4 ≤ r.n := by omega
      have hcne : ¬ r.c = 4 := by omega
      clear hpa9
      go_wp2_with fail
      clear k0 k1 k2 k3 k4 x0 x1 x2 x3 hgl hgls hglf
      obtain ⟨wa, hwa⟩ : ∃ wa, wa = w12 := ⟨_, rfl⟩
      have HWA := Hid.mk hwa
      rw [← hwa] at HS12 SF12
      clear hwa
      go_loopw [109] (fun s109 wr => ∃ (j : Nat) (y8 y9 : Zc), j ≤ 4 ∧ s109 = .int .i64 (j : Int) ∧ Hid (HS wr w.heap.size (fun k => k < w2l.heap.size ∧ k ≠ w.heap.size) (backAll h2 (x.p.take j)) { c2 with y0 := y8, y1 := y9 }) ∧ Hid (Safe (fun k => k < w2l.heap.size ∧ k ≠ w.heap.size) w4 wr)) (fun s109 _ => 4 - (intOf s109).toNat)
      case atStart => exact ⟨0, c2.y0, c2.y1, Nat.zero_le _, rfl, by rw [← HWA.out]; exact HS12, by rw [← HWA.out]; exact SF12⟩
      case round =>
        obtain ⟨j, y8, y9, hj, rfl, HSr, SFr⟩ := hrel
        clear HS12 SF12
        have hGr : w.heap.size < wr.heap.size := HSr.out.r.gs
        by_cases hlt : j < 4
        · have hlt2 : (j : Int) < 4 := by omega
          have hjx : j < x.p.length := by omega
          have hjr : j < r.l.p.length := by rw [HCX.out]; exact hjx
          obtain ⟨pb', poff', hp9, hpb, hpc⟩ := row_elem encT_length (by decide) (own_row (HSr.out.r.pgs r HRM.out)) (j := j) hjr
          obtain ⟨rfl, rfl⟩ : pb = pb' ∧ poff = poff' := by rw [HPA9.out] at hp9; simpa using hp9
          have hpc0 := encT_cells hpc
          rw [Nat.mul_one] at hpc0
          obtain ⟨P, hP⟩ : ∃ P, r.l.p[j] = P := ⟨_, rfl⟩
          have hP2 : x.p[j] = P := by rw [← hP]; simp only [HCX.out]
          obtain ⟨g1, g2, g3⟩ := HRDY.out j hjx h2.ls
          have hbs : ({ backAll { h1 with ls := pushL h1.ls L p } (x.p.take j) with ls := h2.ls } : Hp) = backAll h2 (x.p.take j) := by rw [HH2.out, ← backAll_ls, ← HH2.out]
          have HBN := Hid.mk (backAll_next h2 x.p hjx)
          rw [hbs] at g1 g2 g3
          rw [hP2] at g1 g2 g3 HBN
          rw [hP] at hpc0
          have G1 := Hid.mk g1
          have G2 := Hid.mk g2
          have G3 := Hid.mk g3
          clear hpc hP hP2 g1 g2 g3 hp9 hbs
          go_wp2_with fail
          refine (back_gen w.heap.size P 0 _ _ _ wr HSr.out G1.out G2.out G3.out).mono ?_
          rintro ev w13 ⟨rfl, ⟨u0, u1, hs6⟩, sf6⟩
          rw [← HBN.out] at hs6
          have HS6 := Hid.mk hs6
          have SF6 := Hid.mk (SFr.out.trans sf6)
          clear hs6 sf6 hpc0
          go_wp2
          go_roundw
          case rel => exact ⟨j + 1, u0, u1, by omega, by go_num, HS6, SF6⟩
          case measure => simp [intOf]; omega
        · obtain rfl : j = 4 := by omega
          have hsd := HSr.out.below ((Below.refl wr.heap.size wr).drew)
          have q3 : wr.cell? ⟨w.heap.size, 3, none⟩ = some (.slice c2.al c2.lc.length c2.cl) := HSr.out.words.2.2.2.1
          have hJc2 : J < c2.lc.length := by omega
          have x3 : wr.cell? ⟨gl, J * 4 + 3, none⟩ = some (.slice c2.lc[J].a c2.lc[J].n c2.lc[J].c) := (HSr.out.r.lcells HGL.out hJc2).2.2.2
          rw [HRJ.out, HPA9.out] at x3
          rw [HGL.out] at q3
          have hgls : gl < wr.heap.size := by
            obtain ⟨gl', e1, e2, _⟩ := HSr.out.r.lblock (by show 0 < c2.lc.length; omega)
            rw [show c2.al = some ⟨gl', 0, none⟩ from e1] at HGL
            obtain rfl : gl' = gl := by simpa using HGL.out
            exact e2
          have hrow : Row wr.drew (some ⟨pb, poff, none⟩) (flat encT x.p) := by rw [← HPA9.out, ← HCX.out]; exact own_row (hsd.r.pgs r HRM.out)
          have hrow4 : Row wr.drew (some ⟨pb, poff + 4, none⟩) (flat encT (x.p.drop 4)) := by
            have h1 := flat_drop encT_length x.p 4
            rw [← h1]
            exact row_drop hrow 4
          have hx9 : x.p.length = 9 := by have := hx9; omega
          have hln : (x.p.drop 4).length = r.n - 4 := by rw [List.length_drop]; omega
          have HROW := Hid.mk hrow4
          have HSD := Hid.mk hsd
          have hfz : wr.frozen? ⟨gl, J * 4 + 3, none⟩ = false := by
            obtain ⟨gl', e1, _, _, _, e2⟩ := HSr.out.r.lblock (by show 0 < c2.lc.length; omega)
            rw [show c2.al = some ⟨gl', 0, none⟩ from e1] at HGL
            obtain rfl : gl' = gl := by simpa using HGL.out
            exact e2 _ (by show J * 4 + 3 < c2.lc.length * 4; omega)
          clear hrow hrow4 hsd
          go_wp2_with fail
          go_region_with (go_at_call 51; refine (cloneT _ _ _ (x.p.drop 4) _ hln (by omega) HROW.out).mono ?_; rintro ev w14 ⟨a', c', rfl, ho, hb14⟩; have x3' := (hb14.cell (p := ⟨gl, J * 4 + 3, none⟩) hgls).trans x3; have f3' := (hb14.frozen (p := ⟨gl, J * 4 + 3, none⟩) hgls).trans hfz; have hgls' := Nat.lt_of_lt_of_le hgls hb14.size; have q3' := (hb14.cell (p := ⟨w.heap.size, 3, none⟩) hGr).trans q3)
          all_goals
            have hpg := HSD.out.page (i := J) hJc2 (W' := w14) (r := ⟨{ x with p := x.p.drop 4 }, a', r.n - 4, c'⟩) ⟨hb14.os, hb14.tape, hb14.output, hb14.size, fun k hk _ => hb14.block k hk⟩ (own_base ho (Nat.zero_le _)) (by show x.c = c2.lc[J].l.c ∧ x.z = c2.lc[J].l.z ∧ x.t = c2.lc[J].l.t; rw [HRJ.out, HCX.out]; exact ⟨rfl, rfl, rfl⟩) (fun k hk => .inr (ho.lt k hk).1) HGL.out
            have hpg2 : ∃ (h8 : Hp) (c8 : Hc), HS (w14.setCell ⟨gl, J * 4 + 3, none⟩ (.slice a' (r.n - 4) c')) w.heap.size (fun k => k < w2l.heap.size ∧ k ≠ w.heap.size) h8 c8 ∧ Safe (fun k => k < w2l.heap.size ∧ k ≠ w.heap.size) wr.drew (w14.setCell ⟨gl, J * 4 + 3, none⟩ (.slice a' (r.n - 4) c')) ∧ h1.give cpu p = h8 := ⟨_, _, hpg.1, hpg.2, by
              rw [HGV1.out, if_pos h8, HJ.out, HH2.out, backAll_ls]
              simp only [HL2.out]⟩
            clear hpg ho
            obtain ⟨h8, c8, hs8, sf8, he8⟩ := hpg2
            have HFR : Hid (∃ hi : lb h.live p < h.live.length, h.freeB cpu (lb h.live p) h.live[lb h.live p] = h8) := by
              obtain ⟨h1i, h1e⟩ := HFR0.out
              exact ⟨h1i, by rw [h1e, he8]⟩
            have HS8 := Hid.mk hs8
            have SF8 := Hid.mk ((SFr.out.then ((Below.refl wr.heap.size wr).drew)).trans sf8)
            clear hs8 sf8 he8 x3' f3' hgls' q3' HSr SFr HSD HROW hb14 hfz q3 x3 hgls
            generalize w14.setCell ⟨gl, J * 4 + 3, none⟩ (.slice a' (r.n - 4) c') = w8 at *
            have HB0 : w.heap.size ≤ w4.heap.size := by omega
            obtain ⟨⟨k10, k11, k12, k13, k14⟩, ⟨f10, f11, f12, f13, f14⟩, hsx, hbx, KX⟩ := ret5 HB4.out SF8.out HS8.out K2c.out F2c.out hsz4 hX1 (fun k hk => ⟨by omega, by omega⟩) HB0 (Nat.le_succ _) (.slice c8.az 2 c8.cz) (.slice c8.am 2 c8.cm) (.int .i64 (h8.cpus : Int)) (.slice c8.al c8.lc.length c8.cl) (.slice c8.av h8.live.length c8.cv)
            unfold put5 at hsx hbx
            have HSX := Hid.mk hsx
            have HBX := Hid.mk hbx
            have hG8 : w.heap.size < w8.heap.size := HS8.out.r.gs
            have hG81 : w.heap.size + 1 < w8.heap.size := by have := SF8.out.size; omega
            obtain ⟨q0, q1, q2, q3, q4⟩ := HS8.out.words
            unfold put5 at KX
            clear hsx hbx HS8 SF8
            go_wp2
            generalize (((((w8.setCell ⟨w.heap.size + 1, 0, none⟩ (.slice c8.az 2 c8.cz)).setCell ⟨w.heap.size + 1, 1, none⟩ (.slice c8.am 2 c8.cm)).setCell ⟨w.heap.size + 1, 2, none⟩ (.int .i64 (h8.cpus : Int))).setCell ⟨w.heap.size + 1, 3, none⟩ (.slice c8.al c8.lc.length c8.cl)).setCell ⟨w.heap.size + 1, 4, none⟩ (.slice c8.av h8.live.length c8.cv)) = wx at *
            obtain ⟨hi', e⟩ := HFR.out
            refine bodyPost_ret (v := .tuple #[.agg #[.slice c8.az 2 c8.cz, .slice c8.am 2 c8.cm, .int .i64 (h8.cpus : Int), .slice c8.al c8.lc.length c8.cl, .slice c8.av h8.live.length c8.cv], .int .i64 0]) (by simp [results, Tryd.results26, go_sem, KX]) rfl ?_
            first
              | exact ⟨HBX.out, c8, hi', by rw [e]; rfl, by rw [e]; exact HSX.out.r.sub (fun k hk => ⟨by omega, by omega⟩)⟩
              | exact ⟨HBX.out, c8, by rw [e]; rfl, by rw [e]; exact HSX.out.r.sub (fun k hk => ⟨by omega, by omega⟩)⟩
    · have hrn8 : ¬ (8 : Int) < r.n := by omega
      have HFR : Hid (∃ hi : lb h.live p < h.live.length, h.freeB cpu (lb h.live p) h.live[lb h.live p] = h2) := by
        obtain ⟨h1i, h1e⟩ := HFR0.out
        exact ⟨h1i, by rw [h1e, HGV1.out, if_neg h8, HH2.out]⟩
      go_upto_region 27 with fail
      clear k0 k1 k2 k3 k4 x0 x1 x2 x3 hgl hgls hglf
      have HB00 : w.heap.size ≤ w4.heap.size := by omega
      obtain ⟨⟨k10, k11, k12, k13, k14⟩, ⟨f10, f11, f12, f13, f14⟩, hsx, hbx, KX⟩ := ret5 HB4.out SF12.out HS12.out K2c.out F2c.out hsz4 hX1 (fun k hk => ⟨by omega, by omega⟩) HB00 (Nat.le_succ _) (.slice c2.az 2 c2.cz) (.slice c2.am 2 c2.cm) (.int .i64 (h2.cpus : Int)) (.slice c2.al c2.lc.length c2.cl) (.slice c2.av h2.live.length c2.cv)
      unfold put5 at hsx hbx
      have HSX := Hid.mk hsx
      have HBX := Hid.mk hbx
      have hG8 : w.heap.size < w12.heap.size := HS12.out.r.gs
      have hG81 : w.heap.size + 1 < w12.heap.size := by have := SF12.out.size; omega
      obtain ⟨q0, q1, q2, q3, q4⟩ := HS12.out.words
      unfold put5 at KX
      clear hsx hbx HS12 SF12
      go_wp2
      generalize (((((w12.setCell ⟨w.heap.size + 1, 0, none⟩ (.slice c2.az 2 c2.cz)).setCell ⟨w.heap.size + 1, 1, none⟩ (.slice c2.am 2 c2.cm)).setCell ⟨w.heap.size + 1, 2, none⟩ (.int .i64 (h2.cpus : Int))).setCell ⟨w.heap.size + 1, 3, none⟩ (.slice c2.al c2.lc.length c2.cl)).setCell ⟨w.heap.size + 1, 4, none⟩ (.slice c2.av h2.live.length c2.cv)) = wx at *
      obtain ⟨hi', e⟩ := HFR.out
      refine bodyPost_ret (v := .tuple #[.agg #[.slice c2.az 2 c2.cz, .slice c2.am 2 c2.cm, .int .i64 (h2.cpus : Int), .slice c2.al c2.lc.length c2.cl, .slice c2.av h2.live.length c2.cv], .int .i64 0]) (by simp [results, Tryd.results26, go_sem, KX]) rfl ?_
      first
        | exact ⟨HBX.out, c2, hi', by rw [e]; rfl, by rw [e]; exact HSX.out.r.sub (fun k hk => ⟨by omega, by omega⟩)⟩
        | exact ⟨HBX.out, c2, by rw [e]; rfl, by rw [e]; exact HSX.out.r.sub (fun k hk => ⟨by omega, by omega⟩)⟩
end Go.Proofs.YtjljcifpcljlaaaDoor
