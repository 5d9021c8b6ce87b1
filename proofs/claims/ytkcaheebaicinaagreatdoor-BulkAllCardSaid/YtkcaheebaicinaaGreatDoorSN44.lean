/- Pp16: texts of this claim, joined. -/
import Derived.Test.YtkcaheebaicinaaGreatDoorSN42
import Derived.Test.YtkcaheebaicinaaGreatDoorSN43
/- Contract of package pages: Alloc (printed by tools/alloc.py). -/
namespace Go.Proofs.YtkcaheebaicinaaGreatDoor
open Go.RowKit
set_option linter.unusedVariables false

theorem flagT_lt (flags : Nat) : flagT flags < 3 := by unfold flagT; split <;> (try split) <;> omega

set_option maxHeartbeats 8000000 in
set_option maxRecDepth 100000 in
theorem allocH_pg (az am al av : Option Addr) (cz cm cl cv nl nv : Nat) (y0 y1 : Zc) (lc : List Lc) (h : Hp) (cpu order flags : Nat) (w : World) (hh : HAt w az am al av nl nv y0 y1 lc h) (hk : HOk h) (hnl : nl ≤ 1000) (hnv : nv ≤ 1000) (hc : cpu < h.cpus) (hor : order ≤ 4) (hf : flags ≤ 15) (hff : ¬ (flags / 2 % 2 = 1 ∧ flags / 4 % 2 = 1)) (ho : Oth w) :
    Calls Tryz.prog 38 #[.agg #[.slice az 2 cz, .slice am 2 cm, .int .i64 h.cpus, .slice al nl cl, .slice av nv cv], .int .i64 cpu, .int .i64 order, .int .i64 flags] w fun ev w' => Below w.heap.size w w' ∧ ((h.alloc cpu order (flagT flags) (decide (flags / 8 % 2 = 1)) (decide (flags % 2 = 1)) = none ∧ ev = .returned (.tuple #[.agg #[.slice none 0 0, .slice none 0 0, .int .i64 0, .slice none 0 0, .slice none 0 0], .int .i64 0, .int .i64 6])) ∨ (∃ (h' : Hp) (a : Nat) (c' : Hc), h.alloc cpu order (flagT flags) (decide (flags / 8 % 2 = 1)) (decide (flags % 2 = 1)) = some (h', a) ∧ ev = .returned (.tuple #[.agg (c'.vals h'), .int .i64 (a : Nat), .int .i64 0]) ∧ HNew w' w.heap.size h' c')) := by
  obtain ⟨K1, K2, F1, F2, hsz, hbw⟩ := boxes2 w #[.slice az 2 cz, .slice am 2 cm, .int .i64 (h.cpus : Int), .slice al nl cl, .slice av nv cv] 35 #[.slice none 0 0, .slice none 0 0, .int .i64 0, .slice none 0 0, .slice none 0 0] 35
  have HH := Hid.mk (hh.below hbw)
  have HK := Hid.mk hk
  have HB1 := Hid.mk hbw
  have HO := Hid.mk ho
  have HLV : Hid (h.live.length ≤ 1000) := by unfold Hid; rw [hh.nv]; exact hnv
  have h0w := ho.sz
  have k10 := K1 0
  have k11 := K1 1
  have k12 := K1 2
  have k13 := K1 3
  have k14 := K1 4
  simp only [List.getElem?_toArray, List.getElem?_cons_zero, List.getElem?_cons_succ] at k10 k11 k12 k13 k14
  clear hh hk hbw ho
  go_enter Tryz.func38, Tryz.ntmps38
  go_wp2_with fail
  generalize (w.alloc (.cells #[.slice az 2 cz, .slice am 2 cm, .int .i64 (h.cpus : Int), .slice al nl cl, .slice av nv cv] 35)).alloc (.cells #[.slice none 0 0, .slice none 0 0, .int .i64 0, .slice none 0 0, .slice none 0 0] 35) = w1 at *
  refine (checkH_pg _ _ _ _ _ _ _ _ _ _ _ _ _ h w1 HH.out HK.out hnl hnv).mono ?_
  rintro ev w2 ⟨rfl, hb2⟩
  have K1a := box_step K1 (by omega) hb2
  have F1a := frz_step F1 (by omega) hb2
  have K2a := box_step K2 hsz hb2
  have F2a := frz_step F2 hsz hb2
  have HH2 := Hid.mk (HH.out.below hb2)
  have HB2 := Hid.mk (Below.trans HB1.out (hb2.mono HB1.out.size))
  have hsz2 : w.heap.size + 1 < w2.heap.size := Nat.lt_of_lt_of_le hsz hb2.size
  clear k10 k11 k12 k13 k14 hb2 K1 F1 K2 F2
  have k10 := K1a 0
  have k11 := K1a 1
  have k12 := K1a 2
  have k13 := K1a 3
  have k14 := K1a 4
  simp only [List.getElem?_toArray, List.getElem?_cons_zero, List.getElem?_cons_succ] at k10 k11 k12 k13 k14
  have d1 : decide ((cpu : Int) < 0) = false := decide_eq_false (by omega)
  have d2 : decide (h.cpus ≤ cpu) = false := decide_eq_false (by omega)
  have d3 : decide ((order : Int) < 0) = false := decide_eq_false (by omega)
  have d4 : decide ((4 : Int) < order) = false := decide_eq_false (by omega)
  go_wp2_with fail
  refine (typeOf_pg flags w2 hf hff).mono ?_
  rintro ev _ ⟨rfl, rfl⟩
  go_wp2_with fail
  refine (copyH_pg _ _ _ _ _ _ _ _ _ _ _ _ _ h w2 HH2.out HK.out hnv).mono ?_
  rintro ev w3 ⟨g, c, rfl, hs3, hg3, hb3⟩
  have K1b := box_step K1a (by omega) hb3
  have F1b := frz_step F1a (by omega) hb3
  have K2b := Hid.mk (box_step K2a hsz2 hb3)
  have F2b := Hid.mk (frz_step F2a hsz2 hb3)
  have HS4 := Hid.mk (hs3.move (B := w.heap.size) (show w.heap.size < w2.heap.size by omega) K1b F1b)
  have HB3 := Hid.mk (Below.trans HB2.out (hb3.mono HB2.out.size))
  clear k10 k11 k12 k13 k14 K1a F1a K2a F2a hs3 HH HH2 hg3
  have k10 := K1b 0
  have k11 := K1b 1
  have k12 := K1b 2
  have k13 := K1b 3
  have k14 := K1b 4
  have f10 := F1b 0
  have f11 := F1b 1
  have f12 := F1b 2
  have f13 := F1b 3
  have f14 := F1b 4
  simp only [List.getElem?_toArray, List.getElem?_cons_zero, List.getElem?_cons_succ] at k10 k11 k12 k13 k14
  unfold Hc.vals
  go_wp2_with fail
  have HS4' : Hid (HS (((((w3.setCell ⟨w.heap.size, 0, none⟩ (.slice c.az 2 c.cz)).setCell ⟨w.heap.size, 1, none⟩ (.slice c.am 2 c.cm)).setCell ⟨w.heap.size, 2, none⟩ (.int .i64 (h.cpus : Int))).setCell ⟨w.heap.size, 3, none⟩ (.slice c.al c.lc.length c.cl)).setCell ⟨w.heap.size, 4, none⟩ (.slice c.av h.live.length c.cv)) w.heap.size (fun k => k < w2.heap.size ∧ k ≠ w.heap.size) h c) := HS4
  have hne1 : w.heap.size + 1 ≠ w.heap.size := by omega
  have K2c := Hid.mk (box_set_other (box_set_other (box_set_other (box_set_other (box_set_other K2b.out hne1 0 (.slice c.az 2 c.cz)) hne1 1 (.slice c.am 2 c.cm)) hne1 2 (.int .i64 (h.cpus : Int))) hne1 3 (.slice c.al c.lc.length c.cl)) hne1 4 (.slice c.av h.live.length c.cv))
  have F2c := Hid.mk (frz_set (frz_set (frz_set (frz_set (frz_set F2b.out ⟨w.heap.size, 0, none⟩ (.slice c.az 2 c.cz)) ⟨w.heap.size, 1, none⟩ (.slice c.am 2 c.cm)) ⟨w.heap.size, 2, none⟩ (.int .i64 (h.cpus : Int))) ⟨w.heap.size, 3, none⟩ (.slice c.al c.lc.length c.cl)) ⟨w.heap.size, 4, none⟩ (.slice c.av h.live.length c.cv))
  have hle0 : w.heap.size ≤ w.heap.size := Nat.le_refl _
  have HB4 := Hid.mk (Below.setCell (Below.setCell (Below.setCell (Below.setCell (Below.setCell HB3.out (show w.heap.size ≤ (⟨w.heap.size, 0, none⟩ : Addr).block from hle0) (.slice c.az 2 c.cz)) (show w.heap.size ≤ (⟨w.heap.size, 1, none⟩ : Addr).block from hle0) (.slice c.am 2 c.cm)) (show w.heap.size ≤ (⟨w.heap.size, 2, none⟩ : Addr).block from hle0) (.int .i64 (h.cpus : Int))) (show w.heap.size ≤ (⟨w.heap.size, 3, none⟩ : Addr).block from hle0) (.slice c.al c.lc.length c.cl)) (show w.heap.size ≤ (⟨w.heap.size, 4, none⟩ : Addr).block from hle0) (.slice c.av h.live.length c.cv))
  have hsz4 : w.heap.size + 1 < (((((w3.setCell ⟨w.heap.size, 0, none⟩ (.slice c.az 2 c.cz)).setCell ⟨w.heap.size, 1, none⟩ (.slice c.am 2 c.cm)).setCell ⟨w.heap.size, 2, none⟩ (.int .i64 (h.cpus : Int))).setCell ⟨w.heap.size, 3, none⟩ (.slice c.al c.lc.length c.cl)).setCell ⟨w.heap.size, 4, none⟩ (.slice c.av h.live.length c.cv)).heap.size := by have := hb3.size; simp; omega
  clear k10 k11 k12 k13 k14 f10 f11 f12 f13 f14 K1b F1b K2b F2b HS4 hb3 HB3
  generalize (((((w3.setCell ⟨w.heap.size, 0, none⟩ (.slice c.az 2 c.cz)).setCell ⟨w.heap.size, 1, none⟩ (.slice c.am 2 c.cm)).setCell ⟨w.heap.size, 2, none⟩ (.int .i64 (h.cpus : Int))).setCell ⟨w.heap.size, 3, none⟩ (.slice c.al c.lc.length c.cl)).setCell ⟨w.heap.size, 4, none⟩ (.slice c.av h.live.length c.cv)) = w4 at *
  have hX1 : (fun k => k < w2.heap.size ∧ k ≠ w.heap.size) (w.heap.size + 1) := ⟨hsz2, hne1⟩
  have ht3 := flagT_lt flags
  obtain ⟨t, ht⟩ : ∃ t, flagT flags = t := ⟨_, rfl⟩
  rw [ht] at ht3 ⊢
  have HTT := Hid.mk ht
  clear ht
  have hX0 : (fun k => k < w2.heap.size ∧ k ≠ w.heap.size) 1 := ⟨by omega, by omega⟩
  have HO4 : Hid (Oth w4) := HO.out.mono HB4.out (Nat.le_refl _)
  refine (attempt_pg w.heap.size cpu order t flags (fun k => k < w2.heap.size ∧ k ≠ w.heap.size) h c w4 HS4'.out HK.out hc hor ht3 hf HO4.out hX0).mono ?_
  rintro ev w5 (⟨hno, rfl, hs5, sf5⟩ | ⟨h', a, c5, hso, rfl, hs5, sf5⟩)
  · have HN1 := Hid.mk hno
    have HS5 := Hid.mk hs5
    have SF5 := Hid.mk sf5
    clear hno hs5 sf5
    obtain ⟨hkd, _, hsd, hld, hvd⟩ := HK.out.drain
    have HKD := Hid.mk hkd
    have hcd : cpu < h.drain.cpus := by rw [hsd.cpus]; exact hc
    have HVD := Hid.mk hvd
    clear hkd hsd hld hvd
    go_wp2_with fail
    refine (drain_pg w.heap.size (fun k => k < w2.heap.size ∧ k ≠ w.heap.size) h c w5 HS5.out HK.out).mono ?_
    rintro ev w6 ⟨rfl, ⟨c6, hs6⟩, sf6⟩
    have HS6 := Hid.mk hs6
    have SF6 := Hid.mk (SF5.out.trans sf6)
    clear hs6 sf6 HS5 SF5
    have HO6 : Hid (Oth w6) := HO4.out.safe SF6.out hX0
    go_wp2_with fail
    refine (attempt_pg w.heap.size cpu order t flags (fun k => k < w2.heap.size ∧ k ≠ w.heap.size) h.drain c6 w6 HS6.out HKD.out hcd hor ht3 hf HO6.out hX0).mono ?_
    rintro ev w7 (⟨hno, rfl, hs7, sf7⟩ | ⟨h', a, c5, hso, rfl, hs7, sf7⟩)
    · have HN2 := Hid.mk hno
      have SF9 := Hid.mk (SF6.out.trans sf7)
      have K9 := SF9.out.box K2c.out hsz4 hX1
      have F9 := SF9.out.frz F2c.out hsz4 hX1
      have HB9 := Hid.mk (Safe.after HB4.out SF9.out (B := w.heap.size) (fun k hk => ⟨by omega, by omega⟩) (by omega))
      have hle1 : w.heap.size ≤ w.heap.size + 1 := Nat.le_succ _
      have HBX := Hid.mk (Below.setCell (Below.setCell (Below.setCell (Below.setCell (Below.setCell HB9.out (show w.heap.size ≤ (⟨w.heap.size + 1, 0, none⟩ : Addr).block from hle1) (.slice none 0 0)) (show w.heap.size ≤ (⟨w.heap.size + 1, 1, none⟩ : Addr).block from hle1) (.slice none 0 0)) (show w.heap.size ≤ (⟨w.heap.size + 1, 2, none⟩ : Addr).block from hle1) (.int .i64 0)) (show w.heap.size ≤ (⟨w.heap.size + 1, 3, none⟩ : Addr).block from hle1) (.slice none 0 0)) (show w.heap.size ≤ (⟨w.heap.size + 1, 4, none⟩ : Addr).block from hle1) (.slice none 0 0))
      have KX := (box_set (box_set (box_set (box_set (box_set K9 0 (.slice none 0 0)) 1 (.slice none 0 0)) 2 (.int .i64 0)) 3 (.slice none 0 0)) 4 (.slice none 0 0))
      have k10 := K9 0
      have k11 := K9 1
      have k12 := K9 2
      have k13 := K9 3
      have k14 := K9 4
      have f10 := F9 0
      have f11 := F9 1
      have f12 := F9 2
      have f13 := F9 3
      have f14 := F9 4
      simp only [List.getElem?_toArray, List.getElem?_cons_zero, List.getElem?_cons_succ] at k10 k11 k12 k13 k14
      have HAN : Hid (h.alloc cpu order t (decide (flags / 8 % 2 = 1)) (decide (flags % 2 = 1)) = none) := by
        unfold Hid Hp.alloc
        rw [HN1.out]
        simp only
        rw [HN2.out]
      clear hno hs7 sf7
      go_wp2
      generalize (((((w7.setCell ⟨w.heap.size + 1, 0, none⟩ (.slice none 0 0)).setCell ⟨w.heap.size + 1, 1, none⟩ (.slice none 0 0)).setCell ⟨w.heap.size + 1, 2, none⟩ (.int .i64 0)).setCell ⟨w.heap.size + 1, 3, none⟩ (.slice none 0 0)).setCell ⟨w.heap.size + 1, 4, none⟩ (.slice none 0 0)) = wx at *
      change ∀ o, wx.cell? ⟨w.heap.size + 1, o, none⟩ = (#[.slice none 0 0, .slice none 0 0, .int .i64 0, .slice none 0 0, .slice none 0 0] : Array Value)[o]? at KX
      refine bodyPost_ret (v := .tuple #[.agg #[.slice none 0 0, .slice none 0 0, .int .i64 0, .slice none 0 0, .slice none 0 0], .int .i64 0, .int .i64 6]) (by simp [results, Tryz.results38, go_sem, KX]) rfl ⟨HBX.out, .inl ⟨by rw [HTT.out]; exact HAN.out, rfl⟩⟩
    · have hT := HKD.out.attempt hcd hor ht3 hso
      have HT := Hid.mk hT
      have HS5 := Hid.mk hs7
      have SF5 := Hid.mk (SF6.out.trans sf7)
      have HNV : Hid (h'.live.length ≤ 1000) := by unfold Hid; rw [hT.live, HVD.out]; exact HLV.out
      have HAL : Hid (h.alloc cpu order t (decide (flags / 8 % 2 = 1)) (decide (flags % 2 = 1)) = some ({ h' with live := putIn h'.live ⟨a, order, t⟩ }, a)) := by
        unfold Hid Hp.alloc
        rw [HN1.out]
        simp only
        rw [hso]
      clear hs7 sf7 hso hT HS6 SF6
      have hnv5 : h'.live.length ≤ 1000 := HNV.out
      have ha5 : a ≤ 1000 := by have := HT.out.fit.2.2.1; omega
      obtain ⟨q0, q1, q2, q3, q4⟩ := HS5.out.words
      have hB5 : w.heap.size < w7.heap.size := HS5.out.r.gs
      go_wp2_with fail
      refine (live_pg _ _ _ _ _ _ _ _ _ _ _ _ _ h' a w7 HS5.out.r.at HT.out.ok hnv5 ha5).mono ?_
      rintro ev w7x ⟨rfl, hb7⟩
      have HS6 := Hid.mk (HS5.out.below hb7)
      have SF6 := Hid.mk (SF5.out.then hb7)
      clear q0 q1 q2 q3 q4 hB5 hb7
      obtain ⟨q0, q1, q2, q3, q4⟩ := HS6.out.words
      have hGs6 : w.heap.size < w7x.heap.size := HS6.out.r.gs
      obtain ⟨I, hI⟩ : ∃ I, lb h'.live a = I := ⟨_, rfl⟩
      have hIle : I ≤ h'.live.length := by rw [← hI]; exact lb_le _ _
      have HI := Hid.mk hI
      rw [hI]
      clear hI
      have HS7 := Hid.mk (HS6.out.below (below_alloc w7x (.cells #[.int .i64 (a : Int), .int .i64 (order : Int), .int .i64 (t : Int)] 95)))
      have SF7 := Hid.mk (SF6.out.then (below_alloc w7x (.cells #[.int .i64 (a : Int), .int .i64 (order : Int), .int .i64 (t : Int)] 95)))
      have HGB : Hid ((w7x.alloc (.cells #[.int .i64 (a : Int), .int .i64 (order : Int), .int .i64 (t : Int)] 95)).heap[w7x.heap.size]? = some (.cells #[.int .i64 (a : Int), .int .i64 (order : Int), .int .i64 (t : Int)] 95 (0, 0))) := heap_alloc_new w7x _
      have HNB : Hid (some w7x.heap.size ≠ Value.ownBlock (.slice c5.av h'.live.length c5.cv)) := fun e => by
        have := (HS6.out.r.own.lt _ (rows_lv c5 h') _ e.symm).2
        omega
      go_wp2_with fail
      generalize w7x.alloc (.cells #[.int .i64 (a : Int), .int .i64 (order : Int), .int .i64 (t : Int)] 95) = w8 at *
      refine (insert_bk2 0 c5.av h'.live.length c5.cv w7x.heap.size I h'.live ⟨a, order, t⟩ w8 HS7.out.r.lv hIle hnv5 (Nat.zero_le _) HGB.out HNB.out).mono ?_
      rintro ev w9x ⟨av', cv', rfl, ho8, hg8, hl8⟩
      have hput : h'.live.take I ++ ⟨a, order, t⟩ :: h'.live.drop I = putIn h'.live ⟨a, order, t⟩ := by unfold putIn; rw [HI.out]
      have hpl : (putIn h'.live ⟨a, order, t⟩).length = h'.live.length + 1 := by rw [← hput]; simp; omega
      rw [hput] at ho8
      obtain ⟨hs9, sf9⟩ := HS7.out.away hg8 (av' := av') (cv' := cv') (v' := putIn h'.live ⟨a, order, t⟩) (by rw [hpl]; exact ho8) (by rw [hpl]; exact hl8)
      have hG7 : w.heap.size < w8.heap.size := HS7.out.r.gs
      have hneG : Hid (some w.heap.size ≠ Value.ownBlock (.slice c5.av h'.live.length c5.cv)) := fun e => (HS7.out.r.og _ (rows_lv c5 h') _ e.symm).1 rfl
      have r4 := (box_grown HS7.out.k hG7 hg8 hneG.out 4).trans (show _ = some (.slice c5.av h'.live.length c5.cv) from rfl)
      have g4 := frz_grown HS7.out.fz hG7 hg8 hneG.out 4
      rw [hpl] at hs9 sf9
      have HS9 := Hid.mk hs9
      have SF9 := Hid.mk (SF7.out.trans sf9)
      obtain ⟨p0, p1, p2, p3, p4⟩ := hs9.words
      rw [hpl] at p4
      have K9 := SF9.out.box K2c.out hsz4 hX1
      have F9 := SF9.out.frz F2c.out hsz4 hX1
      have HB9 := Hid.mk (Safe.after HB4.out SF9.out (B := w.heap.size) (fun k hk => ⟨by omega, by omega⟩) (by omega))
      have hle1 : w.heap.size ≤ w.heap.size + 1 := Nat.le_succ _
      have HSX := Hid.mk (((((HS9.out.far hX1 0 (.slice c5.az 2 c5.cz)).far hX1 1 (.slice c5.am 2 c5.cm)).far hX1 2 (.int .i64 (h'.cpus : Int))).far hX1 3 (.slice c5.al c5.lc.length c5.cl)).far hX1 4 (.slice av' (h'.live.length + 1) cv'))
      have HBX := Hid.mk (Below.setCell (Below.setCell (Below.setCell (Below.setCell (Below.setCell HB9.out (show w.heap.size ≤ (⟨w.heap.size + 1, 0, none⟩ : Addr).block from hle1) (.slice c5.az 2 c5.cz)) (show w.heap.size ≤ (⟨w.heap.size + 1, 1, none⟩ : Addr).block from hle1) (.slice c5.am 2 c5.cm)) (show w.heap.size ≤ (⟨w.heap.size + 1, 2, none⟩ : Addr).block from hle1) (.int .i64 (h'.cpus : Int))) (show w.heap.size ≤ (⟨w.heap.size + 1, 3, none⟩ : Addr).block from hle1) (.slice c5.al c5.lc.length c5.cl)) (show w.heap.size ≤ (⟨w.heap.size + 1, 4, none⟩ : Addr).block from hle1) (.slice av' (h'.live.length + 1) cv'))
      have KX := (box_set (box_set (box_set (box_set (box_set K9 0 (.slice c5.az 2 c5.cz)) 1 (.slice c5.am 2 c5.cm)) 2 (.int .i64 (h'.cpus : Int))) 3 (.slice c5.al c5.lc.length c5.cl)) 4 (.slice av' (h'.live.length + 1) cv'))
      have k10 := K9 0
      have k11 := K9 1
      have k12 := K9 2
      have k13 := K9 3
      have k14 := K9 4
      have f10 := F9 0
      have f11 := F9 1
      have f12 := F9 2
      have f13 := F9 3
      have f14 := F9 4
      simp only [List.getElem?_toArray, List.getElem?_cons_zero, List.getElem?_cons_succ] at k10 k11 k12 k13 k14
      have HPL := Hid.mk hpl
      clear hs9 sf9 ho8 hg8 hl8 HS9 SF9 HS7 SF7 hput hpl HB9
      go_wp2
      generalize ((((((w9x.setCell ⟨w.heap.size, 4, none⟩ (.slice av' (h'.live.length + 1) cv')).setCell ⟨w.heap.size + 1, 0, none⟩ (.slice c5.az 2 c5.cz)).setCell ⟨w.heap.size + 1, 1, none⟩ (.slice c5.am 2 c5.cm)).setCell ⟨w.heap.size + 1, 2, none⟩ (.int .i64 (h'.cpus : Int))).setCell ⟨w.heap.size + 1, 3, none⟩ (.slice c5.al c5.lc.length c5.cl)).setCell ⟨w.heap.size + 1, 4, none⟩ (.slice av' (h'.live.length + 1) cv')) = wx at *
      change ∀ o, wx.cell? ⟨w.heap.size + 1, o, none⟩ = (#[.slice c5.az 2 c5.cz, .slice c5.am 2 c5.cm, .int .i64 (h'.cpus : Int), .slice c5.al c5.lc.length c5.cl, .slice av' (h'.live.length + 1) cv'] : Array Value)[o]? at KX
      refine bodyPost_ret (v := .tuple #[.agg #[.slice c5.az 2 c5.cz, .slice c5.am 2 c5.cm, .int .i64 (h'.cpus : Int), .slice c5.al c5.lc.length c5.cl, .slice av' (h'.live.length + 1) cv'], .int .i64 (a : Int), .int .i64 0]) (by simp [results, Tryz.results38, go_sem, KX]) rfl ⟨HBX.out, .inr ⟨_, a, _, by rw [HTT.out]; exact HAL.out, ?_, HSX.out.r.sub (fun k hk => ⟨by omega, by omega⟩)⟩⟩
      unfold Hc.vals
      simp only [HPL.out]
  · have hT := HK.out.attempt hc hor ht3 hso
    have HT := Hid.mk hT
    have HS5 := Hid.mk hs5
    have SF5 := Hid.mk sf5
    have HNV : Hid (h'.live.length ≤ 1000) := by unfold Hid; rw [hT.live]; exact HLV.out
    have HAL : Hid (h.alloc cpu order t (decide (flags / 8 % 2 = 1)) (decide (flags % 2 = 1)) = some ({ h' with live := putIn h'.live ⟨a, order, t⟩ }, a)) := by
      unfold Hid Hp.alloc
      rw [hso]
    clear hs5 sf5 hso hT
    have hnv5 : h'.live.length ≤ 1000 := HNV.out
    have ha5 : a ≤ 1000 := by have := HT.out.fit.2.2.1; omega
    obtain ⟨q0, q1, q2, q3, q4⟩ := HS5.out.words
    have hB5 : w.heap.size < w5.heap.size := HS5.out.r.gs
    go_wp2_with fail
    refine (live_pg _ _ _ _ _ _ _ _ _ _ _ _ _ h' a w5 HS5.out.r.at HT.out.ok hnv5 ha5).mono ?_
    rintro ev w6 ⟨rfl, hb6⟩
    have HS6 := Hid.mk (HS5.out.below hb6)
    have SF6 := Hid.mk (SF5.out.then hb6)
    clear q0 q1 q2 q3 q4 hB5 hb6
    obtain ⟨q0, q1, q2, q3, q4⟩ := HS6.out.words
    have hGs6 : w.heap.size < w6.heap.size := HS6.out.r.gs
    obtain ⟨I, hI⟩ : ∃ I, lb h'.live a = I := ⟨_, rfl⟩
    have hIle : I ≤ h'.live.length := by rw [← hI]; exact lb_le _ _
    have HI := Hid.mk hI
    rw [hI]
    clear hI
    have HS7 := Hid.mk (HS6.out.below (below_alloc w6 (.cells #[.int .i64 (a : Int), .int .i64 (order : Int), .int .i64 (t : Int)] 95)))
    have SF7 := Hid.mk (SF6.out.then (below_alloc w6 (.cells #[.int .i64 (a : Int), .int .i64 (order : Int), .int .i64 (t : Int)] 95)))
    have HGB : Hid ((w6.alloc (.cells #[.int .i64 (a : Int), .int .i64 (order : Int), .int .i64 (t : Int)] 95)).heap[w6.heap.size]? = some (.cells #[.int .i64 (a : Int), .int .i64 (order : Int), .int .i64 (t : Int)] 95 (0, 0))) := heap_alloc_new w6 _
    have HNB : Hid (some w6.heap.size ≠ Value.ownBlock (.slice c5.av h'.live.length c5.cv)) := fun e => by
      have := (HS6.out.r.own.lt _ (rows_lv c5 h') _ e.symm).2
      omega
    go_wp2_with fail
    generalize w6.alloc (.cells #[.int .i64 (a : Int), .int .i64 (order : Int), .int .i64 (t : Int)] 95) = w7 at *
    refine (insert_bk2 0 c5.av h'.live.length c5.cv w6.heap.size I h'.live ⟨a, order, t⟩ w7 HS7.out.r.lv hIle hnv5 (Nat.zero_le _) HGB.out HNB.out).mono ?_
    rintro ev w8 ⟨av', cv', rfl, ho8, hg8, hl8⟩
    have hput : h'.live.take I ++ ⟨a, order, t⟩ :: h'.live.drop I = putIn h'.live ⟨a, order, t⟩ := by unfold putIn; rw [HI.out]
    have hpl : (putIn h'.live ⟨a, order, t⟩).length = h'.live.length + 1 := by rw [← hput]; simp; omega
    rw [hput] at ho8
    obtain ⟨hs9, sf9⟩ := HS7.out.away hg8 (av' := av') (cv' := cv') (v' := putIn h'.live ⟨a, order, t⟩) (by rw [hpl]; exact ho8) (by rw [hpl]; exact hl8)
    have hG7 : w.heap.size < w7.heap.size := HS7.out.r.gs
    have hneG : Hid (some w.heap.size ≠ Value.ownBlock (.slice c5.av h'.live.length c5.cv)) := fun e => (HS7.out.r.og _ (rows_lv c5 h') _ e.symm).1 rfl
    have r4 := (box_grown HS7.out.k hG7 hg8 hneG.out 4).trans (show _ = some (.slice c5.av h'.live.length c5.cv) from rfl)
    have g4 := frz_grown HS7.out.fz hG7 hg8 hneG.out 4
    rw [hpl] at hs9 sf9
    have HS9 := Hid.mk hs9
    have SF9 := Hid.mk (SF7.out.trans sf9)
    obtain ⟨p0, p1, p2, p3, p4⟩ := hs9.words
    rw [hpl] at p4
    have K9 := SF9.out.box K2c.out hsz4 hX1
    have F9 := SF9.out.frz F2c.out hsz4 hX1
    have HB9 := Hid.mk (Safe.after HB4.out SF9.out (B := w.heap.size) (fun k hk => ⟨by omega, by omega⟩) (by omega))
    have hle1 : w.heap.size ≤ w.heap.size + 1 := Nat.le_succ _
    have HSX := Hid.mk (((((HS9.out.far hX1 0 (.slice c5.az 2 c5.cz)).far hX1 1 (.slice c5.am 2 c5.cm)).far hX1 2 (.int .i64 (h'.cpus : Int))).far hX1 3 (.slice c5.al c5.lc.length c5.cl)).far hX1 4 (.slice av' (h'.live.length + 1) cv'))
    have HBX := Hid.mk (Below.setCell (Below.setCell (Below.setCell (Below.setCell (Below.setCell HB9.out (show w.heap.size ≤ (⟨w.heap.size + 1, 0, none⟩ : Addr).block from hle1) (.slice c5.az 2 c5.cz)) (show w.heap.size ≤ (⟨w.heap.size + 1, 1, none⟩ : Addr).block from hle1) (.slice c5.am 2 c5.cm)) (show w.heap.size ≤ (⟨w.heap.size + 1, 2, none⟩ : Addr).block from hle1) (.int .i64 (h'.cpus : Int))) (show w.heap.size ≤ (⟨w.heap.size + 1, 3, none⟩ : Addr).block from hle1) (.slice c5.al c5.lc.length c5.cl)) (show w.heap.size ≤ (⟨w.heap.size + 1, 4, none⟩ : Addr).block from hle1) (.slice av' (h'.live.length + 1) cv'))
    have KX := (box_set (box_set (box_set (box_set (box_set K9 0 (.slice c5.az 2 c5.cz)) 1 (.slice c5.am 2 c5.cm)) 2 (.int .i64 (h'.cpus : Int))) 3 (.slice c5.al c5.lc.length c5.cl)) 4 (.slice av' (h'.live.length + 1) cv'))
    have k10 := K9 0
    have k11 := K9 1
    have k12 := K9 2
    have k13 := K9 3
    have k14 := K9 4
    have f10 := F9 0
    have f11 := F9 1
    have f12 := F9 2
    have f13 := F9 3
    have f14 := F9 4
    simp only [List.getElem?_toArray, List.getElem?_cons_zero, List.getElem?_cons_succ] at k10 k11 k12 k13 k14
    have HPL := Hid.mk hpl
    clear hs9 sf9 ho8 hg8 hl8 HS9 SF9 HS7 SF7 hput hpl HB9
    go_wp2
    generalize ((((((w8.setCell ⟨w.heap.size, 4, none⟩ (.slice av' (h'.live.length + 1) cv')).setCell ⟨w.heap.size + 1, 0, none⟩ (.slice c5.az 2 c5.cz)).setCell ⟨w.heap.size + 1, 1, none⟩ (.slice c5.am 2 c5.cm)).setCell ⟨w.heap.size + 1, 2, none⟩ (.int .i64 (h'.cpus : Int))).setCell ⟨w.heap.size + 1, 3, none⟩ (.slice c5.al c5.lc.length c5.cl)).setCell ⟨w.heap.size + 1, 4, none⟩ (.slice av' (h'.live.length + 1) cv')) = wx at *
    change ∀ o, wx.cell? ⟨w.heap.size + 1, o, none⟩ = (#[.slice c5.az 2 c5.cz, .slice c5.am 2 c5.cm, .int .i64 (h'.cpus : Int), .slice c5.al c5.lc.length c5.cl, .slice av' (h'.live.length + 1) cv'] : Array Value)[o]? at KX
    refine bodyPost_ret (v := .tuple #[.agg #[.slice c5.az 2 c5.cz, .slice c5.am 2 c5.cm, .int .i64 (h'.cpus : Int), .slice c5.al c5.lc.length c5.cl, .slice av' (h'.live.length + 1) cv'], .int .i64 (a : Int), .int .i64 0]) (by simp [results, Tryz.results38, go_sem, KX]) rfl ⟨HBX.out, .inr ⟨_, a, _, by rw [HTT.out]; exact HAL.out, ?_, HSX.out.r.sub (fun k hk => ⟨by omega, by omega⟩)⟩⟩
    unfold Hc.vals
    simp only [HPL.out]
end Go.Proofs.YtkcaheebaicinaaGreatDoor
