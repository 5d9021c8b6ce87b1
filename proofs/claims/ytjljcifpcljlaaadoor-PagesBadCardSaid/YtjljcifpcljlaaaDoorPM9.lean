/- Pn2, Pp11, Pp12, Pp15, InsB: texts of this claim, joined. -/
import Derived.Test.YtjljcifpcljlaaaDoorPM2
import Derived.Test.YtjljcifpcljlaaaDoorPM4
import Derived.Test.YtjljcifpcljlaaaDoorPM6
import Derived.Test.YtjljcifpcljlaaaDoorPM7
import Derived.Test.YtjljcifpcljlaaaDoorPM8
import Derived.Deep.AppendLies
/- Contract of package pages: New. -/
namespace Go.Proofs.YtjljcifpcljlaaaDoor
open Go.RowKit
set_option linter.unusedVariables false

set_option maxHeartbeats 8000000 in
set_option maxRecDepth 100000 in
theorem newH_pg (a : Option Addr) (n cap : Nat) (l : List Rg) (split least cpus : Nat) (w : World) (hn : l.length = n) (hr : Row w a (flat encRg l)) (hl : listOk l = true) (h1 : split ≤ 256) (h2 : split % 16 = 0) (h3 : least ≤ 256) (h4 : 1 ≤ cpus ∧ cpus ≤ 4) :
    Calls Tryd.prog 31 #[.slice a n cap, .int .i64 split, .int .i64 least, .int .i64 cpus] w fun ev w' => ∃ c' : Hc, ev = .returned (.tuple #[.agg (c'.vals (newH l split least cpus)), .int .i64 0]) ∧ HNew w' w.heap.size (newH l split least cpus) c' ∧ Below w.heap.size w w' := by
  obtain ⟨K8, F8, hsz, hbw⟩ := boxes1 w #[.slice none 0 0, .slice none 0 0, .int .i64 0, .slice none 0 0, .slice none 0 0] 34
  have hn40 := listOk_len hl
  have HL := Hid.mk hl
  have HR := Hid.mk (hr.below hbw)
  have HRW := Hid.mk hr
  have HB1 := Hid.mk hbw
  clear hr hbw
  go_enter Tryd.func31, Tryd.ntmps31
  go_upto_region 1 with fail
  generalize w.alloc (.cells #[.slice none 0 0, .slice none 0 0, .int .i64 0, .slice none 0 0, .slice none 0 0] 34) = w1 at *
  go_wp2_with fail
  refine (bootCheck_ok a none n 0 cap 0 l [] w1 hn rfl (by omega) (by omega) HR.out (Row.nil _ _) (listOk_small HL.out) (by simp) HL.out (by decide)).mono ?_
  rintro ev w2 ⟨rfl, hb2⟩
  have K8a := box_step K8 hsz hb2
  have F8a := frz_step F8 hsz hb2
  have HR2 := Hid.mk (HR.out.below hb2)
  have HB2 := Hid.mk (Below.step HB1.out hb2)
  have hsz2 : w.heap.size < w2.heap.size := Nat.lt_of_lt_of_le hsz hb2.size
  clear K8 F8 HR HB1 hb2 hsz
  go_wp2_with fail
  refine (new_ok 0 split (split / 8) w2 (Nat.zero_le _) h1 rfl h2 (by omega)).mono ?_
  rintro ev w3 ⟨a2, c2, rfl, hz3, hb3⟩
  have hX3 : ∀ k, (k = w.heap.size ∨ k = w3.heap.size) → (k < w2.heap.size ∨ w3.heap.size ≤ k) ∧ k ≤ w3.heap.size := fun k hk => by have := hb3.size; omega
  have HZ := Hid.mk (zbox_new (Z := w.heap.size) hz3 (Nat.le_of_lt hsz2) hX3)
  unfold zvals at HZ
  have K8b := box_step K8a hsz2 hb3
  have F8b := frz_step F8a hsz2 hb3
  have HR3 := Hid.mk (HR2.out.below hb3)
  have HB3 := Hid.mk (Below.step HB2.out hb3)
  have hsz3 : w.heap.size < w3.heap.size := Nat.lt_of_lt_of_le hsz2 hb3.size
  clear hX3
  go_upto_region 4 with fail
  have hb4 := below_alloc w3 (.cells #[.int .i64 (0 : Nat), .int .i64 (split : Int), .slice none 0 0, .slice a2 (split / 8) c2] 55)
  have K8c := box_step K8b hsz3 hb4
  have F8c := frz_step F8b hsz3 hb4
  have HR4 := Hid.mk (HR3.out.below hb4)
  have HB4 := Hid.mk (Below.step HB3.out hb4)
  have hsz4 : w.heap.size < (w3.alloc (.cells #[.int .i64 (0 : Nat), .int .i64 (split : Int), .slice none 0 0, .slice a2 (split / 8) c2] 55)).heap.size := Nat.lt_of_lt_of_le hsz3 hb4.size
  have hwB : w.heap.size < w3.heap.size := hsz3
  obtain ⟨B10, hB10⟩ : ∃ B, w3.heap.size = B := ⟨_, rfl⟩
  rw [hB10] at HZ hwB ⊢
  clear HR3 HB3 HR2 HB2 K8a F8a K8b F8b hsz2 hsz3 hb4 hz3 hb3
  change Hid (ZBox (w3.alloc (.cells #[.int .i64 (0 : Nat), .int .i64 (split : Int), .slice none 0 0, .slice a2 (split / 8) c2] 55)) _ _ _ _ _ _ _ _ _ _) at HZ
  rw [show (Value.int .i64 0) = .int .i64 ((0 : Nat) : Int) from rfl]
  generalize w3.alloc (.cells #[.int .i64 (0 : Nat), .int .i64 (split : Int), .slice none 0 0, .slice a2 (split / 8) c2] 55) = w4 at *
  go_wp2_with fail
  refine (new_ok split 256 ((256 - split) / 8) w4 h1 (Nat.le_refl _) h2 rfl rfl).mono ?_
  rintro ev w5 ⟨a3, c3, rfl, hz5, hb5⟩
  have hX5 : ∀ k, (k = w.heap.size ∨ k = B10 ∨ k = w5.heap.size) → (k < w4.heap.size ∨ w5.heap.size ≤ k) ∧ k ≤ w5.heap.size := fun k hk => by have := hb5.size; have := HZ.out.lt; omega
  have HY := Hid.mk (zbox_new (Z := w.heap.size) hz5 (Nat.le_of_lt hsz4) hX5)
  unfold zvals at HY
  have hb6 := below_alloc w5 (.cells #[.int .i64 (split : Int), .int .i64 (256 : Nat), .slice none 0 0, .slice a3 ((256 - split) / 8) c3] 55)
  have hb56 := Below.step hb5 hb6
  have K8d := box_step K8c hsz4 hb56
  have F8d := frz_step F8c hsz4 hb56
  have HR6 := Hid.mk (HR4.out.below hb56)
  have HB6 := Hid.mk (Below.step HB4.out hb56)
  have HZ6 := Hid.mk (HZ.out.new (Y := fun k => k = w.heap.size ∨ k = B10 ∨ k = w5.heap.size) hb56 (fun k hk => by have := hb5.size; have := hb6.size; simp at this; rcases hk with h | h | h; exact .inl (.inl h); exact .inl (.inr h); exact .inr (by simp; omega)))
  have hsz6 : w.heap.size < (w5.alloc (.cells #[.int .i64 (split : Int), .int .i64 (256 : Nat), .slice none 0 0, .slice a3 ((256 - split) / 8) c3] 55)).heap.size := Nat.lt_of_lt_of_le hsz4 hb56.size
  have h1012 : B10 < w5.heap.size := Nat.lt_of_lt_of_le HZ.out.lt hb5.size
  have hx1 : decide ((least : Int) < 0) = false := decide_eq_false (by omega)
  have hx2 : decide ((256 : Int) < least) = false := decide_eq_false (by omega)
  have hx3 : decide ((cpus : Int) < 1) = false := decide_eq_false (by omega)
  have hx4 : decide ((4 : Int) < cpus) = false := decide_eq_false (by omega)
  have hx5 : decide (256 < least) = false := decide_eq_false (by omega)
  have hx6 : decide (cpus < 1) = false := decide_eq_false (by omega)
  have hx7 : decide (4 < cpus) = false := decide_eq_false (by omega)
  go_upto_region 5 with fail
  obtain ⟨B12, hB12⟩ : ∃ B, w5.heap.size = B := ⟨_, rfl⟩
  rw [hB12] at HY HZ6 h1012 ⊢
  clear HZ HR4 HB4 K8c F8c hsz4 hb6 hz5 hb5 hX5 hb56
  change Hid (ZBox (w5.alloc (.cells #[.int .i64 (split : Int), .int .i64 (256 : Nat), .slice none 0 0, .slice a3 ((256 - split) / 8) c3] 55)) _ _ _ _ _ _ _ _ _ _) at HY
  rw [show (Value.int .i64 256) = .int .i64 ((256 : Nat) : Int) from rfl]
  generalize w5.alloc (.cells #[.int .i64 (split : Int), .int .i64 (256 : Nat), .slice none 0 0, .slice a3 ((256 - split) / 8) c3] 55) = w6 at *
  go_upto_region 7 with fail
  clear hx1 hx2 hx3 hx4 hx5 hx6 hx7 HR6
  go_wp2_with fail
  go_loopw [57] (fun s57 wr => ∃ (i : Nat) (x1 x2 : Option Addr) (m1 m2 d1 d2 : Nat) (y1 y2 : Option Addr) (k1 k2 e1 e2 : Nat), i ≤ n ∧ s57 = .int .i64 (i : Int) ∧ Hid (ZBox wr w.heap.size B10 (fun k => k = w.heap.size ∨ k = B10 ∨ k = B12) x1 x2 m1 m2 d1 d2 (newZs split (l.take i)).1) ∧ Hid (ZBox wr w.heap.size B12 (fun k => k = w.heap.size ∨ k = B10 ∨ k = B12) y1 y2 k1 k2 e1 e2 (newZs split (l.take i)).2) ∧ Hid (Below w.heap.size w wr) ∧ Hid (∀ o, wr.cell? ⟨w.heap.size, o, none⟩ = (#[.slice none 0 0, .slice none 0 0, .int .i64 0, .slice none 0 0, .slice none 0 0] : Array Value)[o]?) ∧ Hid (∀ o, wr.frozen? ⟨w.heap.size, o, none⟩ = false)) (fun s57 _ => n - (intOf s57).toNat)
  case atStart => exact ⟨0, _, _, _, _, _, _, _, _, _, _, _, _, Nat.zero_le _, rfl, HZ6, HY, HB6, K8d, F8d⟩
  case round =>
    obtain ⟨i, x1, x2, m1, m2, d1, d2, y1, y2, k1, k2, e1, e2, hi, rfl, HZr, HYr, HBr, K8r, F8r⟩ := hrel
    clear HZ6 HY HB6 K8d F8d hsz6
    by_cases hlt : i < n
    · have hil : i < l.length := by omega
      have hlt2 : (i : Int) < n := by omega
      obtain ⟨b, off, ha, hb, hc⟩ := row_elem encRg_length (by decide) (HRW.out.below HBr.out) hil
      obtain rfl := ha
      have NS := Hid.mk (newInv_at HL.out h1 h2 hil)
      have HIV := Hid.mk (newInv_take HL.out h1 h2 i (Nat.le_of_lt hil))
      have HNX := Hid.mk (newZs_take split l i hil)
      obtain ⟨r, hrr⟩ : ∃ r, l[i] = r := ⟨_, rfl⟩
      rw [hrr] at hc NS HNX
      have c0 := hc 0 _ rfl
      have c1 := hc 1 _ rfl
      simp only [vI, Nat.add_zero] at c0 c1
      rw [NS.out.f] at c0
      rw [NS.out.s] at c1
      have hfs := NS.out.fs
      have hs1 := NS.out.s1
      have hlo := NS.out.lo
      have hloe : r.lo split = min (r.f.toNat + r.s.toNat) split - r.f.toNat := rfl
      have HLOE := Hid.mk hloe
      clear hc hloe hrr
      generalize newZs split (l.take i) = z at *
      obtain ⟨F, hF⟩ : ∃ F, r.f.toNat = F := ⟨_, rfl⟩
      obtain ⟨S, hS⟩ : ∃ S, r.s.toNat = S := ⟨_, rfl⟩
      rw [hF] at c0 hfs HLOE
      rw [hS] at c1 hfs hs1 hlo HLOE
      have HF := Hid.mk hF
      have HSS := Hid.mk hS
      clear hF hS
      go_upto_region 11 with fail
      obtain ⟨M, hM⟩ : ∃ M : Int, (if (split : Int) < (F : Int) + (S : Int) then (split : Int) else (F : Int) + (S : Int)) = M := ⟨_, rfl⟩
      have hL : (if (F : Int) < M then M - (F : Int) else 0) = ((r.lo split : Nat) : Int) := by
        rw [HLOE.out, ← hM]
        by_cases q1 : (split : Int) < (F : Int) + (S : Int)
        · rw [if_pos q1]
          by_cases q2 : (F : Int) < (split : Int)
          · rw [if_pos q2]; omega
          · rw [if_neg q2]; omega
        · rw [if_neg q1]
          rw [if_pos (by omega)]
          omega
      rw [hM, hL]
      clear hL hM
      have hbr := below_alloc wr (.cells #[.int .i64 (F : Int), .int .i64 (S : Int)] 47)
      have HZ1 := Hid.mk (HZr.out.below hbr)
      have HY1 := Hid.mk (HYr.out.below hbr)
      have HB1 := Hid.mk (Below.step HBr.out hbr)
      have hwr : w.heap.size < wr.heap.size := HZr.out.xs _ (.inl rfl)
      have K81 := Hid.mk (box_step K8r.out hwr hbr)
      have F81 := Hid.mk (frz_step F8r.out hwr hbr)
      have KR : Hid (∀ o, (wr.alloc (.cells #[.int .i64 (F : Int), .int .i64 (S : Int)] 47)).cell? ⟨wr.heap.size, o, none⟩ = (#[.int .i64 (F : Int), .int .i64 (S : Int)] : Array Value)[o]?) := box_new wr _ _
      have hszR : wr.heap.size < (wr.alloc (.cells #[.int .i64 (F : Int), .int .i64 (S : Int)] 47)).heap.size := by simp
      have h10R : B10 < wr.heap.size ∧ B12 < wr.heap.size := ⟨HZr.out.lt, HYr.out.lt⟩
      clear HZr HYr HBr K8r F8r c0 c1 hb hbr
      obtain ⟨BR, hBR⟩ : ∃ BR, wr.heap.size = BR := ⟨_, rfl⟩
      rw [hBR] at KR hszR h10R hwr ⊢
      generalize wr.alloc (.cells #[.int .i64 (F : Int), .int .i64 (S : Int)] 47) = w7 at *
      obtain ⟨L, hLL⟩ : ∃ L, r.lo split = L := ⟨_, rfl⟩
      have HLL := Hid.mk hLL
      rw [hLL] at hlo ⊢
      have hle := NS.out.le
      have hhi := NS.out.hi
      have hd0 := NS.out.d0
      have hd1 := NS.out.d1
      have hnx := NS.out.next
      unfold newStep at hnx
      rw [HF.out, hLL] at hle hhi hd0 hd1 hnx
      rw [HSS.out] at hhi hd1 hnx
      have HD0 := Hid.mk hd0
      have HD1 := Hid.mk hd1
      have HNXT := Hid.mk hnx
      have HSTEP : Hid (newZs split (l.take (i + 1)) = (giveTo z.1 F L, giveTo z.2 (F + L) (S - L))) := by
        unfold Hid
        rw [HNX.out]
        unfold newStep
        rw [HF.out, HSS.out, hLL]
      clear hd0 hd1 hnx hLL HNX NS HLOE HLL
      go_upto_if 73 with fail
      go_cut [] (fun wx => ∃ (x1 x2 : Option Addr) (m1 m2 d1 d2 : Nat), Hid (ZBox wx w.heap.size B10 (fun k => k = w.heap.size ∨ k = B10 ∨ k = B12) x1 x2 m1 m2 d1 d2 (giveTo z.1 F L)) ∧ Hid (ZBox wx w.heap.size B12 (fun k => k = w.heap.size ∨ k = B10 ∨ k = B12) y1 y2 k1 k2 e1 e2 z.2) ∧ Hid (Below w.heap.size w wx) ∧ Hid (∀ o, wx.cell? ⟨w.heap.size, o, none⟩ = (#[.slice none 0 0, .slice none 0 0, .int .i64 0, .slice none 0 0, .slice none 0 0] : Array Value)[o]?) ∧ Hid (∀ o, wx.frozen? ⟨w.heap.size, o, none⟩ = false) ∧ Hid (∀ o, wx.cell? ⟨BR, o, none⟩ = (#[.int .i64 (F : Int), .int .i64 (S : Int)] : Array Value)[o]?) ∧ BR < wx.heap.size)
      case first =>
        by_cases hL0 : 0 < L
        · have hL0i : (0 : Int) < L := by omega
          have hLle := hle hL0
          obtain ⟨q0, q1, q2, q3⟩ := HZ1.out.cells
          have u0 := KR.out 0
          simp only [List.getElem?_toArray, List.getElem?_cons_zero] at u0
          go_wp2_with fail
          refine (give_gen x1 x2 m1 m2 d1 d2 z.1 F L w7 HZ1.out.own.at HIV.out.o0 HD0.out (by rw [HIV.out.f0]; exact Nat.zero_le _) (by rw [HIV.out.e0]; exact hLle)).mono ?_
          rintro ev w8 ⟨b1, b2, m8, e8, e9, rfl, ho8, hb8⟩
          have HGF := (giveG_ok HIV.out.o0 HD0.out (by rw [HIV.out.f0]; exact Nat.zero_le _) (by rw [HIV.out.e0]; exact hLle) L (Nat.le_refl _))
          have HZ2 := Hid.mk (HZ1.out.put (.inr (.inl rfl)) (by omega) hb8 ho8)
          rw [HGF.2.1, HGF.2.2.1] at HZ2
          have hne : B12 ≠ B10 := by omega
          have HY2 := Hid.mk (((HY1.out.below hb8).far4 (g := B10) (.inr (.inl rfl)) hne (.int .i64 z.1.f) (.int .i64 z.1.e) (.slice b1 m8 e8) (.slice b2 m2 e9)))
          have hB := HZ1.out.below hb8
          obtain ⟨p0, p1, p2, p3⟩ := hB.cells
          have g0 := hB.fz 0
          have g1 := hB.fz 1
          have g2 := hB.fz 2
          have g3 := hB.fz 3
          have hB10 := hB.lt
          have hwne : w.heap.size ≠ B10 := by omega
          have hRne : BR ≠ B10 := by omega
          have K82 := Hid.mk (box_set_other (box_set_other (box_set_other (box_set_other (box_step K81.out (by omega) hb8) hwne 0 (.int .i64 z.1.f)) hwne 1 (.int .i64 z.1.e)) hwne 2 (.slice b1 m8 e8)) hwne 3 (.slice b2 m2 e9))
          have F82 := Hid.mk (frz_set (frz_set (frz_set (frz_set (frz_step F81.out (by omega) hb8) ⟨B10, 0, none⟩ (.int .i64 z.1.f)) ⟨B10, 1, none⟩ (.int .i64 z.1.e)) ⟨B10, 2, none⟩ (.slice b1 m8 e8)) ⟨B10, 3, none⟩ (.slice b2 m2 e9))
          have KR2 := Hid.mk (box_set_other (box_set_other (box_set_other (box_set_other (box_step KR.out hszR hb8) hRne 0 (.int .i64 z.1.f)) hRne 1 (.int .i64 z.1.e)) hRne 2 (.slice b1 m8 e8)) hRne 3 (.slice b2 m2 e9))
          have hle10 : w.heap.size ≤ B10 := Nat.le_of_lt hwB
          have HB2 := Hid.mk (Below.setCell (Below.setCell (Below.setCell (Below.setCell (Below.step HB1.out hb8) (show w.heap.size ≤ (⟨B10, 0, none⟩ : Addr).block from hle10) (.int .i64 z.1.f)) (show w.heap.size ≤ (⟨B10, 1, none⟩ : Addr).block from hle10) (.int .i64 z.1.e)) (show w.heap.size ≤ (⟨B10, 2, none⟩ : Addr).block from hle10) (.slice b1 m8 e8)) (show w.heap.size ≤ (⟨B10, 3, none⟩ : Addr).block from hle10) (.slice b2 m2 e9))
          have hszR2 : BR < ((((w8.setCell ⟨B10, 0, none⟩ (.int .i64 z.1.f)).setCell ⟨B10, 1, none⟩ (.int .i64 z.1.e)).setCell ⟨B10, 2, none⟩ (.slice b1 m8 e8)).setCell ⟨B10, 3, none⟩ (.slice b2 m2 e9)).heap.size := by have := hb8.size; simp; omega
          clear q0 q1 q2 q3 u0 hB ho8 hb8 HZ1 HY1 HB1 K81 F81 KR HGF
          go_wp2_with fail
          go_meet
          case rel => exact ⟨b1, b2, m8, m2, e8, e9, HZ2, HY2, HB2, K82, F82, KR2, hszR2⟩
        · have hL0i : ¬ (0 : Int) < L := by omega
          obtain rfl : L = 0 := by omega
          go_wp2_with fail
          go_meet
          case rel => exact ⟨x1, x2, m1, m2, d1, d2, HZ1, HY1, HB1, K81, F81, KR, hszR⟩
      case rest =>
        obtain ⟨x1, x2, m1, m2, d1, d2, HZ1, HY1, HB1, K81, F81, KR, hszR⟩ := hcut
        have u1 := KR.out 1
        simp only [List.getElem?_toArray, List.getElem?_cons_zero, List.getElem?_cons_succ] at u1
        go_upto_if 85 with fail
        clear hle
        by_cases hSL : L < S
        · have hSLi : (L : Int) < S := by omega
          have hSL2 := hhi hSL
          obtain ⟨q0, q1, q2, q3⟩ := HY1.out.cells
          have u0 := KR.out 0
          simp only [List.getElem?_toArray, List.getElem?_cons_zero] at u0
          have hgive := give_gen y1 y2 k1 k2 e1 e2 z.2 (F + L) (S - L) wc HY1.out.own.at HIV.out.o1 HD1.out (by rw [HIV.out.f1]; exact hSL2) (by rw [HIV.out.e1]; omega)
          rw [show ((F + L : Nat) : Int) = (F : Int) + L from by omega, show ((S - L : Nat) : Int) = (S : Int) - L from by omega] at hgive
          go_wp2_with fail
          refine hgive.mono ?_
          rintro ev w9 ⟨b1, b2, m8, e8, e9, rfl, ho8, hb8⟩
          have ho8 : ZOwn w9 wc.heap.size b1 b2 m8 k2 e8 e9 (giveTo z.2 (F + L) (S - L)) := ho8
          have HGF := (giveG_ok HIV.out.o1 HD1.out (by rw [HIV.out.f1]; exact hSL2) (by rw [HIV.out.e1]; omega) (S - L) (Nat.le_refl _))
          have HY2 := Hid.mk (HY1.out.put (.inr (.inr rfl)) (by omega) hb8 ho8)
          rw [HGF.2.1, HGF.2.2.1] at HY2
          have hne : B10 ≠ B12 := by omega
          have HZ2 := Hid.mk (((HZ1.out.below hb8).far4 (g := B12) (.inr (.inr rfl)) hne (.int .i64 z.2.f) (.int .i64 z.2.e) (.slice b1 m8 e8) (.slice b2 k2 e9)))
          have hB := HY1.out.below hb8
          obtain ⟨p0, p1, p2, p3⟩ := hB.cells
          have g0 := hB.fz 0
          have g1 := hB.fz 1
          have g2 := hB.fz 2
          have g3 := hB.fz 3
          have hB12 := hB.lt
          have hwne : w.heap.size ≠ B12 := by omega
          have hRne : BR ≠ B12 := by omega
          have K82 := Hid.mk (box_set_other (box_set_other (box_set_other (box_set_other (box_step K81.out (by omega) hb8) hwne 0 (.int .i64 z.2.f)) hwne 1 (.int .i64 z.2.e)) hwne 2 (.slice b1 m8 e8)) hwne 3 (.slice b2 k2 e9))
          have F82 := Hid.mk (frz_set (frz_set (frz_set (frz_set (frz_step F81.out (by omega) hb8) ⟨B12, 0, none⟩ (.int .i64 z.2.f)) ⟨B12, 1, none⟩ (.int .i64 z.2.e)) ⟨B12, 2, none⟩ (.slice b1 m8 e8)) ⟨B12, 3, none⟩ (.slice b2 k2 e9))
          have KR2 := Hid.mk (box_set_other (box_set_other (box_set_other (box_set_other (box_step KR.out hszR hb8) hRne 0 (.int .i64 z.2.f)) hRne 1 (.int .i64 z.2.e)) hRne 2 (.slice b1 m8 e8)) hRne 3 (.slice b2 k2 e9))
          have hle10 : w.heap.size ≤ B12 := Nat.le_of_lt (Nat.lt_trans hwB h1012)
          have HB2 := Hid.mk (Below.setCell (Below.setCell (Below.setCell (Below.setCell (Below.step HB1.out hb8) (show w.heap.size ≤ (⟨B12, 0, none⟩ : Addr).block from hle10) (.int .i64 z.2.f)) (show w.heap.size ≤ (⟨B12, 1, none⟩ : Addr).block from hle10) (.int .i64 z.2.e)) (show w.heap.size ≤ (⟨B12, 2, none⟩ : Addr).block from hle10) (.slice b1 m8 e8)) (show w.heap.size ≤ (⟨B12, 3, none⟩ : Addr).block from hle10) (.slice b2 k2 e9))
          have hszR2 : BR < ((((w9.setCell ⟨B12, 0, none⟩ (.int .i64 z.2.f)).setCell ⟨B12, 1, none⟩ (.int .i64 z.2.e)).setCell ⟨B12, 2, none⟩ (.slice b1 m8 e8)).setCell ⟨B12, 3, none⟩ (.slice b2 k2 e9)).heap.size := by have := hb8.size; simp; omega
          clear q0 q1 q2 q3 u0 hB ho8 hb8 HY1 HZ1 HB1 K81 F81 KR HGF hgive
          go_wp2_with fail
          go_roundw
          case rel => first | exact ⟨i + 1, x1, x2, m1, m2, d1, d2, b1, b2, m8, k2, e8, e9, by omega, by go_num, by rw [HSTEP.out]; exact HZ2, by rw [HSTEP.out]; exact HY2, HB2, K82, F82⟩ | ((repeat apply Exists.intro); exact ⟨⟨i + 1, x1, x2, m1, m2, d1, d2, b1, b2, m8, k2, e8, e9, by omega, by go_num, by rw [HSTEP.out]; exact HZ2, by rw [HSTEP.out]; exact HY2, HB2, K82, F82⟩, rfl⟩)
          case measure => simp [intOf]; omega
        · have hSLi : ¬ (L : Int) < S := by omega
          have hSL0 : S - L = 0 := by omega
          go_wp2_with fail
          go_roundw
          case rel => first | exact ⟨i + 1, x1, x2, m1, m2, d1, d2, y1, y2, k1, k2, e1, e2, by omega, by go_num, by rw [HSTEP.out]; exact HZ1, by rw [HSTEP.out]; rw [hSL0]; exact HY1, HB1, K81, F81⟩ | ((repeat apply Exists.intro); exact ⟨⟨i + 1, x1, x2, m1, m2, d1, d2, y1, y2, k1, k2, e1, e2, by omega, by go_num, by rw [HSTEP.out]; exact HZ1, by rw [HSTEP.out]; rw [hSL0]; exact HY1, HB1, K81, F81⟩, rfl⟩)
          case measure => simp [intOf]; omega
    · obtain rfl : i = n := by omega
      have e : l.take i = l := List.take_of_length_le (by omega)
      rw [e] at HZr HYr
      obtain ⟨p0, p1, p2, p3⟩ := HZr.out.cells
      obtain ⟨q0, q1, q2, q3⟩ := HYr.out.cells
      have k80 := K8r.out 0
      have k81 := K8r.out 1
      have k82 := K8r.out 2
      have k83 := K8r.out 3
      have k84 := K8r.out 4
      have f80 := F8r.out 0
      have f81 := F8r.out 1
      have f82 := F8r.out 2
      have f83 := F8r.out 3
      have f84 := F8r.out 4
      simp only [List.getElem?_toArray, List.getElem?_cons_zero, List.getElem?_cons_succ] at k80 k81 k82 k83 k84
      have hB10 := HZr.out.lt
      have hB12 := HYr.out.lt
      have hwr : w.heap.size < wr.heap.size := HZr.out.xs _ (.inl rfl)
      have hne10 : B10 ≠ w.heap.size := by omega
      have hne12 : B12 ≠ w.heap.size := by omega
      obtain ⟨V0, hV0⟩ : ∃ V : Value, V = .slice (some ⟨wr.heap.size, 0, none⟩) 2 2 := ⟨_, rfl⟩
      obtain ⟨V1, hV1⟩ : ∃ V : Value, V = .slice (some ⟨wr.heap.size + 1, 0, none⟩) 2 2 := ⟨_, rfl⟩
      have HZ5 := Hid.mk (((((HZr.out.far (.inl rfl) hne10 0 V0).far (.inl rfl) hne10 1 V1).far (.inl rfl) hne10 2 (.int .i64 (cpus : Int))).far (.inl rfl) hne10 3 (.slice none 0 0)).far (.inl rfl) hne10 4 (.slice none 0 0))
      have HY5 := Hid.mk (((((HYr.out.far (.inl rfl) hne12 0 V0).far (.inl rfl) hne12 1 V1).far (.inl rfl) hne12 2 (.int .i64 (cpus : Int))).far (.inl rfl) hne12 3 (.slice none 0 0)).far (.inl rfl) hne12 4 (.slice none 0 0))
      have K5 := Hid.mk (box_set (box_set (box_set (box_set (box_set K8r.out 0 V0) 1 V1) 2 (.int .i64 (cpus : Int))) 3 (.slice none 0 0)) 4 (.slice none 0 0))
      have HB5 := Hid.mk (Below.setCell (Below.setCell (Below.setCell (Below.setCell (Below.setCell HBr.out (show w.heap.size ≤ (⟨w.heap.size, 0, none⟩ : Addr).block from Nat.le_refl _) V0) (show w.heap.size ≤ (⟨w.heap.size, 1, none⟩ : Addr).block from Nat.le_refl _) V1) (show w.heap.size ≤ (⟨w.heap.size, 2, none⟩ : Addr).block from Nat.le_refl _) (.int .i64 (cpus : Int))) (show w.heap.size ≤ (⟨w.heap.size, 3, none⟩ : Addr).block from Nat.le_refl _) (.slice none 0 0)) (show w.heap.size ≤ (⟨w.heap.size, 4, none⟩ : Addr).block from Nat.le_refl _) (.slice none 0 0))
      have HSZ : Hid ((((((wr.setCell ⟨w.heap.size, 0, none⟩ V0).setCell ⟨w.heap.size, 1, none⟩ V1).setCell ⟨w.heap.size, 2, none⟩ (.int .i64 (cpus : Int))).setCell ⟨w.heap.size, 3, none⟩ (.slice none 0 0)).setCell ⟨w.heap.size, 4, none⟩ (.slice none 0 0)).heap.size = wr.heap.size) := by simp [Hid]
      have HV0 := Hid.mk hV0
      have HV1 := Hid.mk hV1
      clear hV0 hV1 HZr HYr K8r F8r HBr
      go_wp2
      rw [← HV0.out, ← HV1.out]
      generalize ((((wr.setCell ⟨w.heap.size, 0, none⟩ V0).setCell ⟨w.heap.size, 1, none⟩ V1).setCell ⟨w.heap.size, 2, none⟩ (.int .i64 (cpus : Int))).setCell ⟨w.heap.size, 3, none⟩ (.slice none 0 0)).setCell ⟨w.heap.size, 4, none⟩ (.slice none 0 0) = W5 at *
      have hs := HSZ.out
      have hb1 := below_alloc W5 (.cells (flat encZc [⟨(newZs split l).1, x1, x2, m1, m2, d1, d2⟩, ⟨(newZs split l).2, y1, y2, k1, k2, e1, e2⟩]).toArray 55)
      have hb2 := below_alloc (W5.alloc (.cells (flat encZc [⟨(newZs split l).1, x1, x2, m1, m2, d1, d2⟩, ⟨(newZs split l).2, y1, y2, k1, k2, e1, e2⟩]).toArray 55)) (.cells (flat encT [least, least]).toArray 3)
      have r1 : ((W5.alloc (.cells (flat encZc [⟨(newZs split l).1, x1, x2, m1, m2, d1, d2⟩, ⟨(newZs split l).2, y1, y2, k1, k2, e1, e2⟩]).toArray 55)).alloc (.cells (flat encT [least, least]).toArray 3)).ownsRow 0 55 4 (.slice (some ⟨wr.heap.size, 0, none⟩) 2 2) 2 (flat encZc [⟨(newZs split l).1, x1, x2, m1, m2, d1, d2⟩, ⟨(newZs split l).2, y1, y2, k1, k2, e1, e2⟩]) := by
        rw [← hs]
        exact own_below (own_new W5 (Nat.zero_le _) rfl (by decide)) hb2 (Nat.le_refl _)
      have r2 : ((W5.alloc (.cells (flat encZc [⟨(newZs split l).1, x1, x2, m1, m2, d1, d2⟩, ⟨(newZs split l).2, y1, y2, k1, k2, e1, e2⟩]).toArray 55)).alloc (.cells (flat encT [least, least]).toArray 3)).ownsRow 0 3 1 (.slice (some ⟨wr.heap.size + 1, 0, none⟩) 2 2) 2 (flat encT [least, least]) := by
        rw [show wr.heap.size + 1 = (W5.alloc (.cells (flat encZc [⟨(newZs split l).1, x1, x2, m1, m2, d1, d2⟩, ⟨(newZs split l).2, y1, y2, k1, k2, e1, e2⟩]).toArray 55)).heap.size by simp [hs]]
        exact own_new _ (Nat.zero_le _) rfl (by decide)
      have t0 := (HZ5.out.below hb1).below hb2
      have t1 := (HY5.out.below hb1).below hb2
      have t0l := HZ5.out.own
      have t1l := HY5.out.own
      have HRX := newH_hr r1 r2 t0.own t1.own (G := w.heap.size) (N := wr.heap.size) t0l t1l hs (HZ5.out.ne _ (.inl rfl)) (HY5.out.ne _ (.inl rfl)) hwr (by have h9 := hb1.size; have h8 := hb2.size; omega) (newH l split least cpus) rfl rfl rfl rfl rfl rfl 
      have KX := box_step (box_step K5.out (by omega) hb1) (by have := hb1.size; omega) hb2
      have HBX := Below.step (Below.step HB5.out hb1) hb2
      have hwx : ∃ wx, wx = (W5.alloc (.cells (flat encZc [⟨(newZs split l).1, x1, x2, m1, m2, d1, d2⟩, ⟨(newZs split l).2, y1, y2, k1, k2, e1, e2⟩]).toArray 55)).alloc (.cells (flat encT [least, least]).toArray 3) := ⟨_, rfl⟩
      obtain ⟨wx, hwx⟩ := hwx
      rw [← hwx] at HRX KX HBX
      change wx = (W5.alloc (.cells #[.int .i64 ((newZs split l).1.f : Int), .int .i64 ((newZs split l).1.e : Int), .slice x1 m1 d1, .slice x2 m2 d2, .int .i64 ((newZs split l).2.f : Int), .int .i64 ((newZs split l).2.e : Int), .slice y1 k1 e1, .slice y2 k2 e2] 55)).alloc (.cells #[.int .i64 (least : Int), .int .i64 (least : Int)] 3) at hwx
      rw [← hwx]
      change ∀ o, wx.cell? ⟨w.heap.size, o, none⟩ = (#[V0, V1, .int .i64 (cpus : Int), .slice none 0 0, .slice none 0 0] : Array Value)[o]? at KX
      clear hwx hb1 hb2
      refine bodyPost_ret (v := .tuple #[.agg #[V0, V1, .int .i64 (cpus : Int), .slice none 0 0, .slice none 0 0], .int .i64 0]) (by simp [results, Tryd.results31, go_sem, KX]) rfl ⟨⟨some ⟨wr.heap.size, 0, none⟩, 2, some ⟨wr.heap.size + 1, 0, none⟩, 2, none, 0, none, 0, ⟨(newZs split l).1, x1, x2, m1, m2, d1, d2⟩, ⟨(newZs split l).2, y1, y2, k1, k2, e1, e2⟩, []⟩, ?_, HRX, HBX⟩
      rw [HV0.out, HV1.out]
      rfl
end Go.Proofs.YtjljcifpcljlaaaDoor
/- Contract of package pages: single, on the heap behind a pointer. -/
namespace Go.Proofs.YtjljcifpcljlaaaDoor
open Go.RowKit
set_option linter.unusedVariables false

/-- what an attempt to find pages answers -/
def Res (r : Option (Hp × Nat)) (G : Nat) (X : Nat → Prop) (h : Hp) (c : Hc) (w : World) (ev : Ending) (w' : World) : Prop :=
  (r = none ∧ ev = .returned (.tuple #[.int .i64 0, .bool false]) ∧ HS w' G X h c ∧ Safe X w w') ∨
  (∃ h' a c', r = some (h', a) ∧ ev = .returned (.tuple #[.int .i64 (a : Nat), .bool true]) ∧ HS w' G X h' c' ∧ Safe X w w')

set_option maxHeartbeats 8000000 in
set_option maxRecDepth 100000 in
theorem single_pg (G cpu z t flags : Nat) (X : Nat → Prop) (h : Hp) (c : Hc) (w : World) (hs : HS w G X h c) (hk : HOk h) (hc : cpu < h.cpus) (hz : z < 2) (ht : t < 3) (hf : flags ≤ 15) (ho : Oth w) (hx0 : X 0) :
    Calls Tryd.prog 64 #[.pointer (some ⟨G, 0, none⟩), .int .i64 cpu, .int .i64 z, .int .i64 t, .int .i64 flags] w (Res (h.single ⟨cpu, z, t, []⟩ (h.held z (decide (flags / 8 % 2 = 1)) (decide (flags % 2 = 1)))) G X h c w) := by
  obtain ⟨K4, F4, hsz, hbw⟩ := boxes1 w #[.int .i64 (cpu : Int), .int .i64 (z : Int), .int .i64 (t : Int), .slice none 0 0] 66
  have HS0 := Hid.mk (hs.new hbw)
  have HSF0 := Hid.mk (Safe.ofBelow (X := X) hbw)
  have HO0 := Hid.mk (ho.below hbw)
  have HK := Hid.mk hk
  have hG0 : G < (w.alloc (.cells #[.int .i64 (cpu : Int), .int .i64 (z : Int), .int .i64 (t : Int), .slice none 0 0] 66)).heap.size := HS0.out.r.gs
  obtain ⟨k0, k1, k2, k3, k4⟩ := HS0.out.words
  have b0 := K4 0
  have b1 := K4 1
  have b2 := K4 2
  have b3 := K4 3
  simp only [List.getElem?_toArray, List.getElem?_cons_zero, List.getElem?_cons_succ] at b0 b1 b2 b3
  have hGw := hs.r.gs
  have HXW := Hid.mk hs.r.xs
  have hn24 := hk.ls_len
  have HLN := Hid.mk (lc_len hs.r)
  have hc24 : c.lc.length ≤ 24 := by rw [HLN.out]; exact hn24
  clear hs hk hbw ho
  go_enter Tryd.func64, Tryd.ntmps64
  go_wp2_with fail
  generalize w.alloc (.cells #[.int .i64 (cpu : Int), .int .i64 (z : Int), .int .i64 (t : Int), .slice none 0 0] 66) = w1 at *
  refine wp_region_ext_lit (by kernel_rfl) (by kernel_rfl) ?_
  repeat (go_big_quiet_step ((go_at_call 50; exact Calls.ext_of (list_pg _ _ _ _ _ _ _ _ _ _ _ _ _ h ⟨cpu, z, t, []⟩ none 0 0 _ (HS0.out.r.at.below (ext_below w1 _)) HK.out ⟨hz, ht⟩ (by omega)))))
  refine wpQuiet_nil ?_
  rintro _ ⟨wx, rfl⟩
  have HS1 := Hid.mk (HS0.out.below (ext_below w1 wx))
  have HSF1 := Hid.mk (HSF0.out.then (ext_below w1 wx))
  have HO1 := Hid.mk (HO0.out.below (ext_below w1 wx))
  have K4' := Hid.mk (box_step K4 hsz (ext_below w1 wx))
  have F4' := Hid.mk (frz_step F4 hsz (ext_below w1 wx))
  have hsz1 : w.heap.size < (ext w1 wx).heap.size := Nat.lt_of_lt_of_le hsz (ext_below w1 wx).size
  have hszle : w1.heap.size ≤ (ext w1 wx).heap.size := (ext_below w1 wx).size
  clear k0 k1 k2 k3 k4 b0 b1 b2 b3 K4 F4 HS0 HSF0 HO0
  generalize ext w1 wx = w2 at *
  obtain ⟨D, hD⟩ : ∃ D, h.held z (decide (flags / 8 % 2 = 1)) (decide (flags % 2 = 1)) = D := ⟨_, rfl⟩
  have HD := Hid.mk hD
  rw [hD]
  clear hD
  cases hh : hasL h.ls (Ls.key ⟨cpu, z, t, []⟩) with
  | true =>
    obtain ⟨I, hI, hi0, HSI⟩ : ∃ I, lbL h.ls (Ls.key ⟨cpu, z, t, []⟩) = I ∧ ∃ hi : I < h.ls.length, Hid (h.single ⟨cpu, z, t, []⟩ D = some ({ h with ls := if h.ls[I].p.length = 1 then h.ls.eraseIdx I else h.ls.set I { h.ls[I] with p := h.ls[I].p.dropLast } }, h.ls[I].p.getLastD 0)) := by
      obtain ⟨hi0, hkey⟩ := hasL_true hh
      exact ⟨_, rfl, hi0, single_there hh hi0⟩
    rw [hI]
    clear hI hh
    have h6 : I < c.lc.length := by rw [HLN.out]; exact hi0
    have h7 := Hid.mk (lc_get HS1.out.r h6 hi0)
    obtain ⟨gl, hgl, hgls, hglG, hglX, hglf⟩ := HS1.out.r.lblock (by omega)
    have hown := HS1.out.r.pgs _ (List.getElem_mem h6)
    have hlen := pg_len hown
    have hok := HK.out.lr _ (List.getElem_mem hi0)
    have hpos := hok.2.2.2.1
    have h8 := hok.2.2.2.2.1
    rw [h7.out] at hlen
    obtain ⟨K, hKn⟩ : ∃ K, c.lc[I].n = K + 1 := ⟨c.lc[I].n - 1, by omega⟩
    have HKN := Hid.mk hKn
    obtain ⟨k0, k1, k2, k3, k4⟩ := HS1.out.words
    rw [hgl] at k3
    obtain ⟨x0, x1, x2, x3⟩ := HS1.out.r.lcells hgl h6
    rw [hKn] at x3
    have hKp : K < h.ls[I].p.length := by omega
    obtain ⟨pb, poff, hpa, hpb, hpc⟩ := row_elem encT_length (by decide) (own_row hown) (j := K) (by show K < (c.lc[I]).l.p.length; rw [h7.out]; exact hKp)
    have hp0 := encT_cells hpc
    rw [Nat.mul_one] at hp0
    have HPA := Hid.mk hpa
    rw [hpa] at x3
    have hcap := own_cap hown
    rw [hKn] at hcap
    have HOWN := Hid.mk hown
    obtain ⟨P, hP⟩ : ∃ P, (c.lc[I]).l.p[K]'(by rw [h7.out]; exact hKp) = P := ⟨_, rfl⟩
    have HP : Hid (h.ls[I].p[K]? = some P) := by
      unfold Hid
      rw [← hP]
      simp only [← h7.out]
      exact List.getElem?_eq_getElem _
    simp only [hP] at hp0
    have hfz := hglf (I * 4 + 3) (by omega)
    have HGL := Hid.mk hgl
    have hKi : (K : Int) < (K : Int) + 1 := by omega
    have hI2 : (I : Int) < c.lc.length := by omega
    have hcap2 : (K : Int) ≤ (c.lc[I].c : Int) := by omega
    have hGs2 : G < w2.heap.size := HS1.out.r.gs
    obtain ⟨CC, hCC⟩ : ∃ CC, c.lc[I].c = CC := ⟨_, rfl⟩
    rw [hCC] at x3 hcap hcap2
    have HCC := Hid.mk hCC
    clear hpc hpa hown hok hKn hP hgl hglf k0 k1 k2 k4 x0 x1 x2 hlen hCC
    go_wp2_with fail
    go_still_tail 17, (by kernel_rfl)
    change wpList _ _ _ _ _ w2.drew
    have HS3 := Hid.mk (HS1.out.below ((Below.refl w2.heap.size w2).drew))
    have HSF3 := Hid.mk (HSF1.out.then ((Below.refl w2.heap.size w2).drew))
    have HOWN3 := own_below HOWN.out ((Below.refl w2.heap.size w2).drew) (Nat.le_refl _)
    have hdw : w2.drew.heap.size = w2.heap.size := rfl
    have hgs3 : gl < w2.drew.heap.size := hgls
    have hGs3 : G < w2.drew.heap.size := hGs2
    clear hfz x3 k3 hp0
    generalize w2.drew = w3 at *
    have x3 := (HS3.out.r.lcells HGL.out h6).2.2.2
    obtain ⟨_, hgl', _, _, _, hf3⟩ := HS3.out.r.lblock (by omega)
    have hfz : w3.frozen? ⟨gl, I * 4 + 3, none⟩ = false := by
      rw [HGL.out] at hgl'
      obtain rfl : gl = _ := by simpa using hgl'
      exact hf3 _ (by omega)
    clear hgl' hf3
    have ho4 : (pgR ⟨{ h.ls[I] with p := h.ls[I].p.dropLast }, some ⟨pb, poff, none⟩, K, CC⟩).on w3 0 := by
      have h1 := own_prefix HOWN3 (i := K) (by show K ≤ c.lc[I].n; rw [HKN.out]; omega)
      have h2 := flat_take encT_length c.lc[I].l.p K
      unfold Rs.on pgR
      simp only
      have h3 : (pgR c.lc[I]).xs.take (K * 1) = flat encT h.ls[I].p.dropLast := by
        show (flat encT c.lc[I].l.p).take (K * 1) = _
        rw [h2, h7.out, List.dropLast_eq_take]
        congr 2
        have := pg_len HOWN3
        rw [h7.out, HKN.out] at this
        omega
      have h4 := h1
      rw [show (pgR c.lc[I]).k = 1 from rfl, h3, HPA.out, HCC.out] at h4
      exact h4
    obtain ⟨hs4, sf4⟩ := HS3.out.page h6 (World.grownBy.refl w3 _) ho4 (by rw [h7.out]; exact ⟨rfl, rfl, rfl⟩) (fun k hk => .inl (by simpa [pgR, Value.ownBlock, HPA.out] using hk)) HGL.out
    have HS4 : Hid (HS (w3.setCell ⟨gl, I * 4 + 3, none⟩ (.slice (some ⟨pb, poff, none⟩) K CC)) G (fun k => X k ∨ (w.heap.size ≤ k ∧ k < w1.heap.size)) { h with ls := h.ls.set I { h.ls[I] with p := h.ls[I].p.dropLast } } { c with lc := c.lc.set I ⟨{ h.ls[I] with p := h.ls[I].p.dropLast }, some ⟨pb, poff, none⟩, K, CC⟩ }) := hs4
    have HSF4 : Hid (Safe X w (w3.setCell ⟨gl, I * 4 + 3, none⟩ (.slice (some ⟨pb, poff, none⟩) K CC))) := HSF3.out.trans (sf4.sub fun k _ hk => .inl hk)
    have hlen1 : Hid (h.ls[I].p.length = K + 1) := by
      have hl := pg_len HOWN3
      rw [h7.out, HKN.out] at hl
      exact hl
    have HLG : Hid (h.ls[I].p.getLastD 0 = P) := by
      unfold Hid
      rw [List.getLastD_eq_getLast?, List.getLast?_eq_getElem?, hlen1.out, Nat.add_sub_cancel, HP.out]
      rfl
    clear hs4 sf4 ho4 HOWN3 HOWN hKp hpos h8
    by_cases hK0 : K = 0
    · subst hK0
      obtain ⟨_, _, _, q3, _⟩ := HS4.out.words
      simp only [List.length_set] at q3
      rw [HGL.out] at q3
      have HHS : Hid ((h.ls.set I { h.ls[I] with p := h.ls[I].p.dropLast }).eraseIdx I = h.ls.eraseIdx I) := List.eraseIdx_set_eq
      go_wp2_with fail
      generalize hW4 : w3.setCell ⟨gl, I * 4 + 3, none⟩ (.slice (some ⟨pb, poff, none⟩) 0 CC) = w4 at *
      clear hW4
      obtain ⟨c4, hc4⟩ : ∃ c4 : Hc, ({ c with lc := c.lc.set I ⟨{ h.ls[I] with p := h.ls[I].p.dropLast }, some ⟨pb, poff, none⟩, 0, CC⟩ } : Hc) = c4 := ⟨_, rfl⟩
      have hal4 : c4.al = some ⟨gl, 0, none⟩ := by rw [← hc4]; exact HGL.out
      have hcl4 : c4.cl = c.cl := by rw [← hc4]
      have hln4 : c4.lc.length = c.lc.length := by rw [← hc4]; simp
      rw [hc4] at HS4
      have HAL := Hid.mk hal4
      have HLN4 := Hid.mk hln4
      have hown4 := HS4.out.r.lsr
      unfold lsR at hown4
      unfold Rs.on at hown4
      simp only [hal4, hcl4, hln4] at hown4
      have HOWN4 := Hid.mk hown4
      have HCL := Hid.mk hcl4
      clear hown4 hc4 hal4 hcl4 hln4
      refine (delete_lc 0 (some ⟨gl, 0, none⟩) c.lc.length c.cl c4.lc I w4 HOWN4.out h6 (by omega) (Nat.zero_le _)).mono ?_
      rintro ev w5 ⟨rfl, ho5, hg5⟩
      have hle : (c4.lc.eraseIdx I).length = c.lc.length - 1 := by rw [List.length_eraseIdx_of_lt (by rw [HLN4.out]; exact h6), HLN4.out]
      have hlb : (lsR c4).v.ownBlock = some gl := by unfold lsR; rw [HAL.out]; rfl
      have hG4 : G < w4.heap.size := HS4.out.r.gs
      have hneG : (Value.slice (some ⟨gl, 0, none⟩) c.lc.length c.cl).ownBlock ≠ some G := fun e => (HS4.out.r.og _ (rows_ls c4 _) G (by rw [hlb]; simpa [Value.ownBlock] using e)).1 rfl
      have q5 := (box_grown HS4.out.k hG4 hg5 (fun e => hneG e.symm) 3).trans (show _ = some (.slice c4.al c4.lc.length c4.cl) from rfl)
      have f5 := frz_grown HS4.out.fz hG4 hg5 (fun e => hneG e.symm) 3
      have hG5 : G < w5.heap.size := Nat.lt_of_lt_of_le hG4 hg5.size
      have hpo : OwnL w4 0 ((c4.lc.eraseIdx I).map pgR) := HS4.out.r.own.sub (by
        unfold Hc.rows
        refine (((List.sublist_cons_self _ _).trans (List.sublist_cons_self _ _)).trans (List.sublist_cons_self _ _)) |> fun h => List.Sublist.trans ?_ h
        exact (List.eraseIdx_sublist _ _).map pgR)
      obtain ⟨hs6, sf6⟩ := HS4.out.lists (W' := w5) (by rw [hlb]; simpa [Value.ownBlock] using hg5) (al' := some ⟨gl, 0, none⟩) (cl' := c.cl) (lc' := c4.lc.eraseIdx I) (by rw [hle]; exact ho5) (fun k hk => .inl (by rw [hlb]; simpa [Value.ownBlock] using hk)) hpo (fun r hr g hg => .inl ⟨r, ((List.eraseIdx_sublist _ _).map pgR).subset hr, hg⟩)
      rw [hle] at hs6 sf6
      have hls6 : (c4.lc.eraseIdx I).map Lc.l = h.ls.eraseIdx I := by
        rw [List.eraseIdx_eq_take_drop_succ, List.map_append, List.map_take, List.map_drop, ← List.eraseIdx_eq_take_drop_succ, HS4.out.r.ll]
        exact HHS.out
      rw [hls6] at hs6
      have HS6 := Hid.mk hs6
      have HSF6 := Hid.mk (HSF4.out.trans (sf6.sub fun k _ hk => .inl hk))
      clear hs6 sf6 hpo hls6 ho5 hg5 hlb hle hneG q3
      go_wp2
      go_ret2
      refine .inr ⟨_, P, _, ?_, rfl, HS6.out.sub fun k hk => .inl hk, HSF6.out⟩
      rw [HD.out, HSI.out, HLG.out, if_pos (by rw [hlen1.out])]
    · have d0 : ((K : Int) == 0) = false := by rw [beq_eq_false_iff_ne]; omega
      go_wp2
      go_ret2
      refine .inr ⟨_, P, _, ?_, rfl, HS4.out.sub fun k hk => .inl hk, HSF4.out⟩
      rw [HD.out, HSI.out, HLG.out, if_neg (by rw [hlen1.out]; omega)]
  | false =>
    have HSN := Hid.mk (single_new (hd := D) hh)
    have HMISS := Hid.mk (lbL_miss HK.out.lk (hasL_false hh))
    clear hh
    go_wp2_with fail
    refine (take_pg G z 0 t flags (fun k => X k ∨ (w.heap.size ≤ k ∧ k < w1.heap.size)) h c w2 HS1.out HK.out hz (by omega) ht hf HO1.out).mono ?_
    rintro ev w3 (⟨hno, rfl, hs3, sf3⟩ | ⟨h1, a1, y0, y1, hso, rfl, hs3, sf3⟩)
    · rw [HD.out] at hno
      have HNO := Hid.mk hno
      have HS3 := Hid.mk hs3
      have HSF3 := Hid.mk (HSF1.out.trans (sf3.sub fun k _ hk => .inl hk))
      clear hs3 sf3 hno
      go_wp2_with fail
      go_loopw [19] (fun s19 wr => s19 = .int .i64 1 ∧ wr = w3) (fun _ _ => 0)
      case atStart => exact ⟨rfl, rfl⟩
      case round =>
        obtain ⟨rfl, rfl⟩ := hrel
        go_wp2
        go_ret2
        exact .inl ⟨by rw [HD.out, HSN.out, HNO.out]; rfl, rfl, HS3.out.sub fun k hk => .inl hk, HSF3.out⟩
    · rw [HD.out] at hso
      have HSO := Hid.mk hso
      obtain ⟨hT, hls1, hz1⟩ := HK.out.takeZ (by omega) ht hz hso
      have HS3 := Hid.mk hs3
      have HSF3 := Hid.mk (HSF1.out.trans (sf3.sub fun k _ hk => .inl hk))
      have HO3 := Hid.mk (HO1.out.safe sf3 (Or.inl hx0))
      have hXB : (fun k => X k ∨ (w.heap.size ≤ k ∧ k < w1.heap.size)) w.heap.size := .inr ⟨Nat.le_refl _, hsz⟩
      have K5 := Hid.mk (sf3.box K4'.out hsz1 hXB)
      have hsz3 : w.heap.size < w3.heap.size := Nat.lt_of_lt_of_le hsz1 sf3.size
      have HT := Hid.mk hT
      have HM8 : Hid (∀ x ∈ h1.ls, x.key = (Ls.key ⟨cpu, z, t, []⟩) → x.p.length + 3 ≤ 8) := fun x hx hkey => absurd hkey (HMISS.out x (by rw [← hls1]; exact hx))
      have HXB := Hid.mk hXB
      clear hs3 sf3 hso hT hls1 hz1 HS1 HSF1 HO1 K4' F4' hXB
      go_wp2_with fail
      go_loopw [19] (fun s19 wr => ∃ (j : Nat) (hj : Hp) (cj : Hc), j ≤ 3 ∧ s19 = .int .i64 (1 + j : Int) ∧ Hid (HS wr G (fun k => X k ∨ (w.heap.size ≤ k ∧ k < w1.heap.size)) hj cj) ∧ Hid (Safe (fun k => X k ∨ (w.heap.size ≤ k ∧ k < w1.heap.size)) w3 wr) ∧ Hid (HOk hj) ∧ Hid (Same h hj) ∧ Hid (h1.fill ⟨cpu, z, t, []⟩ D 3 = hj.fill ⟨cpu, z, t, []⟩ D (3 - j)) ∧ Hid (∀ x ∈ hj.ls, x.key = (Ls.key ⟨cpu, z, t, []⟩) → x.p.length + (3 - j) ≤ 8)) (fun s19 _ => 4 - (intOf s19).toNat)
      case atStart => exact ⟨0, h1, _, Nat.zero_le _, rfl, HS3, Safe.refl _ _, HT.out.ok, HT.out.same, rfl, HM8⟩
      case round =>
        obtain ⟨j, hj, cj, hj3, rfl, HSj, SFj, HKj, HSMj, HFj, H8j⟩ := hrel
        clear HS3 HM8
        have K6 := Hid.mk (SFj.out.box K5.out hsz3 HXB.out)
        have hszj : w.heap.size < wr.heap.size := Nat.lt_of_lt_of_le hsz3 SFj.out.size
        by_cases hlt : j < 3
        · have hlt2 : (1 : Int) + j < 4 := by omega
          have HDj := Hid.mk ((held_same HK.out HKj.out HSMj.out z (decide (flags / 8 % 2 = 1)) (decide (flags % 2 = 1))).trans HD.out)
          have HOj := Hid.mk (HO3.out.safe SFj.out (Or.inl hx0))
          obtain ⟨m, hm⟩ : ∃ m, 3 - j = m + 1 := ⟨2 - j, by omega⟩
          have HMj := Hid.mk hm
          have hm3 : m + 1 ≤ 3 := by omega
          clear hm
          go_wp2_with fail
          refine (take_pg G z 0 t flags (fun k => X k ∨ (w.heap.size ≤ k ∧ k < w1.heap.size)) hj cj wr HSj.out HKj.out hz (by omega) ht hf HOj.out).mono ?_
          rintro ev w4 (⟨hno, rfl, hs4, sf4⟩ | ⟨h2, a2, y0', y1', hso, rfl, hs4, sf4⟩)
          · rw [HDj.out] at hno
            have HFF : Hid (h1.fill ⟨cpu, z, t, []⟩ D 3 = hj) := by
              unfold Hid
              rw [HFj.out, HMj.out]
              unfold Hp.fill
              simp only [hno]
            have HS4 := Hid.mk hs4
            have HSF4 := Hid.mk (HSF3.out.trans ((SFj.out.trans sf4).sub fun k _ hk => .inl hk))
            clear hs4 sf4 hno
            go_wp2
            go_ret2
            exact .inr ⟨_, a1, _, by rw [HD.out, HSN.out, HSO.out]; simp only [Option.map_some]; rw [HFF.out], rfl, HS4.out.sub fun k hk => .inl hk, HSF4.out⟩
          · rw [HDj.out] at hso
            have hcpu : cpu < hj.cpus := by rw [HSMj.out.cpus]; exact hc
            obtain ⟨g1, g2, g3, g4⟩ := HKj.out.fill_step (l := ⟨cpu, z, t, []⟩) (n := m) ⟨hcpu, hz, ht⟩ (by rw [← HMj.out]; exact H8j.out) (by omega) hso
            have HFF : Hid (h1.fill ⟨cpu, z, t, []⟩ D 3 = Hp.fill { h2 with ls := pushL h2.ls ⟨cpu, z, t, []⟩ a2 } ⟨cpu, z, t, []⟩ D m) := by
              unfold Hid
              rw [HFj.out, HMj.out, Hp.fill]
              simp only [hso]
            have HS4 := Hid.mk hs4
            have SF4 := Hid.mk (SFj.out.trans sf4)
            have K7 := Hid.mk (sf4.box K6.out hszj HXB.out)
            have G1 := Hid.mk g1
            have G2 := Hid.mk g2
            have G3 := Hid.mk g3
            have G4 := Hid.mk (HSMj.out.trans g4)
            have b0 := K7.out 0
            have b1 := K7.out 1
            have b2 := K7.out 2
            have b3 := K7.out 3
            simp only [List.getElem?_toArray, List.getElem?_cons_zero, List.getElem?_cons_succ] at b0 b1 b2 b3
            have hmj : m = 3 - (j + 1) := by have := HMj.out; omega
            clear hs4 sf4 hso g1 g2 g3 g4 HSj SFj HFj H8j K6 K7
            go_wp2_with fail
            refine (push_pg G a2 ⟨cpu, z, t, []⟩ none 0 0 (fun k => X k ∨ (w.heap.size ≤ k ∧ k < w1.heap.size)) h2 _ w4 HS4.out G1.out ⟨hz, ht⟩).mono ?_
            rintro ev w5 ⟨rfl, ⟨al', cl', lc', hs5⟩, sf5⟩
            have HS5 := Hid.mk hs5
            have SF5 := Hid.mk (SF4.out.trans sf5)
            clear hs5 sf5 b0 b1 b2 b3
            subst hmj
            go_wp2
            go_roundw
            case rel => exact ⟨j + 1, _, _, by omega, by go_num, HS5, SF5, G2, G4, HFF, G3⟩
            case measure => simp [intOf]; omega
        · obtain rfl : j = 3 := by omega
          have HFF : Hid (h1.fill ⟨cpu, z, t, []⟩ D 3 = hj) := HFj.out
          have HSF4 := Hid.mk (HSF3.out.trans (SFj.out.sub fun k _ hk => .inl hk))
          go_wp2
          go_ret2
          exact .inr ⟨_, a1, _, by rw [HD.out, HSN.out, HSO.out]; simp only [Option.map_some]; rw [HFF.out], rfl, HSj.out.sub fun k hk => .inl hk, HSF4.out⟩
end Go.Proofs.YtjljcifpcljlaaaDoor
/- Contract of package pages: attempt, on the heap behind a pointer. -/
namespace Go.Proofs.YtjljcifpcljlaaaDoor
open Go.RowKit
set_option linter.unusedVariables false

/-- what is left to try -/
def Hp.tries (h : Hp) (cpu order t : Nat) (u lo : Bool) : Nat → Option (Hp × Nat)
  | 0 => none
  | r + 1 => match h.ask cpu r order t u lo with
    | some x => some x
    | none => Hp.tries h cpu order t u lo r
theorem attempt_tries (h : Hp) (cpu order t : Nat) (u lo : Bool) : h.attempt cpu order t u lo = h.tries cpu order t u lo (if lo then 1 else 2) := by
  unfold Hp.attempt
  cases lo with
  | true =>
    simp only [if_true, Hp.tries]
    cases h.ask cpu 0 order t u true <;> rfl
  | false =>
    simp only [Bool.false_eq_true, if_false, Hp.tries]
    cases h.ask cpu 1 order t u false with
    | some x => rfl
    | none => simp only; cases h.ask cpu 0 order t u false <;> rfl

set_option maxHeartbeats 8000000 in
set_option maxRecDepth 100000 in
theorem attempt_pg (G cpu order t flags : Nat) (X : Nat → Prop) (h : Hp) (c : Hc) (w : World) (hs : HS w G X h c) (hk : HOk h) (hc : cpu < h.cpus) (hor : order ≤ 4) (ht : t < 3) (hf : flags ≤ 15) (ho : Oth w) (hx0 : X 0) :
    Calls Tryd.prog 41 #[.pointer (some ⟨G, 0, none⟩), .int .i64 cpu, .int .i64 order, .int .i64 t, .int .i64 flags] w (Res (h.attempt cpu order t (decide (flags / 8 % 2 = 1)) (decide (flags % 2 = 1))) G X h c w) := by
  obtain ⟨K4, F4, hsz, hbw⟩ := boxes1 w #[.int .i64 1, .int .i64 0] 3
  have HS0 := Hid.mk (hs.new hbw)
  have HSF0 := Hid.mk (Safe.ofBelow (X := X) hbw)
  have HO0 := Hid.mk (ho.below hbw)
  have HK := Hid.mk hk
  have KZ := Hid.mk K4
  have HXW := Hid.mk hs.r.xs
  obtain ⟨hb8, hb1⟩ := and_bits flags hf
  have HA := Hid.mk (attempt_tries h cpu order t (decide (flags / 8 % 2 = 1)) (decide (flags % 2 = 1)))
  clear hs hk hbw ho K4 F4
  by_cases hlo : flags % 2 = 1
  · rw [if_pos hlo] at hb1
    have HA2 : Hid (h.attempt cpu order t (decide (flags / 8 % 2 = 1)) (decide (flags % 2 = 1)) = h.tries cpu order t (decide (flags / 8 % 2 = 1)) (decide (flags % 2 = 1)) 1) := by
      unfold Hid
      rw [HA.out]
      congr 1
      simp [hlo]
    go_enter Tryd.func41, Tryd.ntmps41
    go_wp2_with fail
    generalize w.alloc (.cells #[.int .i64 1, .int .i64 0] 3) = w1 at *
    go_loopw [25] (fun s25 wr => ∃ i : Nat, i ≤ 1 ∧ s25 = .int .i64 (i : Int) ∧ Hid (HS wr G (fun k => X k ∨ (w.heap.size ≤ k ∧ k < w1.heap.size)) h c) ∧ Hid (Safe (fun k => X k ∨ (w.heap.size ≤ k ∧ k < w1.heap.size)) w1 wr) ∧ Hid (h.attempt cpu order t (decide (flags / 8 % 2 = 1)) (decide (flags % 2 = 1)) = h.tries cpu order t (decide (flags / 8 % 2 = 1)) (decide (flags % 2 = 1)) (1 - i))) (fun s25 _ => 1 - (intOf s25).toNat)
    case atStart => exact ⟨0, by omega, rfl, HS0, Safe.refl _ _, HA2⟩
    case round =>
      obtain ⟨i, hi, rfl, HSr, SFr, HTR⟩ := hrel
      clear HA HA2
      have HOr := Hid.mk (HO0.out.safe SFr.out (Or.inl hx0))
      have KZr := SFr.out.box KZ.out hsz (show (fun k => X k ∨ (w.heap.size ≤ k ∧ k < w1.heap.size)) w.heap.size from .inr ⟨Nat.le_refl _, hsz⟩)
      have z0 := KZr 0
      have z1 := KZr 1
      simp only [List.getElem?_toArray, List.getElem?_cons_zero, List.getElem?_cons_succ] at z0 z1
      clear KZr
      obtain rfl | rfl : i = 0 ∨ i = 1 := by omega
      · skip
        have HRT : Hid (h.attempt cpu order t (decide (flags / 8 % 2 = 1)) (decide (flags % 2 = 1)) = match h.ask cpu 0 order t (decide (flags / 8 % 2 = 1)) (decide (flags % 2 = 1)) with
          | some x => some x
          | none => h.tries cpu order t (decide (flags / 8 % 2 = 1)) (decide (flags % 2 = 1)) 0) := HTR.out
        by_cases h0 : order = 0
        · have d0 : ((order : Int) == 0) = true := by rw [beq_iff_eq]; omega
          have H0 := Hid.mk h0
          clear h0
          go_wp2_with fail
          refine (single_pg G cpu 0 t flags (fun k => X k ∨ (w.heap.size ≤ k ∧ k < w1.heap.size)) h c wr HSr.out HK.out hc (by omega) ht hf HOr.out (Or.inl hx0)).mono ?_
          rintro ev w4 (⟨hno, rfl, hs', sf'⟩ | ⟨h', a, c', hso, rfl, hs', sf'⟩)
          · have HN : Hid (h.ask cpu 0 order t (decide (flags / 8 % 2 = 1)) (decide (flags % 2 = 1)) = none) := by
              unfold Hid Hp.ask
              rw [if_pos H0.out]
              exact hno
            have HRT2 : Hid (h.attempt cpu order t (decide (flags / 8 % 2 = 1)) (decide (flags % 2 = 1)) = h.tries cpu order t (decide (flags / 8 % 2 = 1)) (decide (flags % 2 = 1)) (1 - 1)) := by
              unfold Hid
              rw [HRT.out, HN.out]
            have HS4 := Hid.mk hs'
            have SF4 := Hid.mk (SFr.out.trans sf')
            clear hno hs' sf'
            go_wp2
            go_roundw
            case rel => exact ⟨1, by omega, by go_num, HS4, SF4, HRT2⟩
            case measure => simp [intOf]
          · have HN : Hid (h.attempt cpu order t (decide (flags / 8 % 2 = 1)) (decide (flags % 2 = 1)) = some (h', a)) := by
              have e : h.ask cpu 0 order t (decide (flags / 8 % 2 = 1)) (decide (flags % 2 = 1)) = some (h', a) := by
                unfold Hp.ask
                rw [if_pos H0.out]
                exact hso
              unfold Hid
              rw [HRT.out, e]
            have HS4 := Hid.mk (hs'.sub (Y := X) fun k hk => .inl hk)
            have SF4 := Hid.mk (HSF0.out.trans ((SFr.out.trans sf').sub fun k _ hk => .inl hk))
            clear hso hs' sf'
            go_wp2
            go_ret2
            exact .inr ⟨h', a, c', HN.out, rfl, HS4.out, SF4.out⟩
        · have d0 : ((order : Int) == 0) = false := by rw [beq_eq_false_iff_ne]; omega
          have H0 := Hid.mk h0
          clear h0
          go_wp2_with fail
          refine (take_pg G 0 order t flags (fun k => X k ∨ (w.heap.size ≤ k ∧ k < w1.heap.size)) h c wr HSr.out HK.out (by omega) hor ht hf HOr.out).mono ?_
          rintro ev w4 (⟨hno, rfl, hs', sf'⟩ | ⟨h', a, y0', y1', hso, rfl, hs', sf'⟩)
          · have HN : Hid (h.ask cpu 0 order t (decide (flags / 8 % 2 = 1)) (decide (flags % 2 = 1)) = none) := by
              unfold Hid Hp.ask
              rw [if_neg H0.out]
              exact hno
            have HRT2 : Hid (h.attempt cpu order t (decide (flags / 8 % 2 = 1)) (decide (flags % 2 = 1)) = h.tries cpu order t (decide (flags / 8 % 2 = 1)) (decide (flags % 2 = 1)) (1 - 1)) := by
              unfold Hid
              rw [HRT.out, HN.out]
            have HS4 := Hid.mk hs'
            have SF4 := Hid.mk (SFr.out.trans sf')
            clear hno hs' sf'
            go_wp2
            go_roundw
            case rel => exact ⟨1, by omega, by go_num, HS4, SF4, HRT2⟩
            case measure => simp [intOf]
          · have HN : Hid (h.attempt cpu order t (decide (flags / 8 % 2 = 1)) (decide (flags % 2 = 1)) = some (h', a)) := by
              have e : h.ask cpu 0 order t (decide (flags / 8 % 2 = 1)) (decide (flags % 2 = 1)) = some (h', a) := by
                unfold Hp.ask
                rw [if_neg H0.out]
                exact hso
              unfold Hid
              rw [HRT.out, e]
            have HS4 := Hid.mk (hs'.sub (Y := X) fun k hk => .inl hk)
            have SF4 := Hid.mk (HSF0.out.trans ((SFr.out.trans sf').sub fun k _ hk => .inl hk))
            clear hso hs' sf'
            go_wp2
            go_ret2
            exact .inr ⟨h', a, _, HN.out, rfl, HS4.out, SF4.out⟩
      · have HS4 := Hid.mk (HSr.out.sub (Y := X) fun k hk => .inl hk)
        have SF4 := Hid.mk (HSF0.out.trans (SFr.out.sub fun k _ hk => .inl hk))
        go_wp2
        go_ret2
        exact .inl ⟨HTR.out, rfl, HS4.out, SF4.out⟩
  · rw [if_neg hlo] at hb1
    have HA2 : Hid (h.attempt cpu order t (decide (flags / 8 % 2 = 1)) (decide (flags % 2 = 1)) = h.tries cpu order t (decide (flags / 8 % 2 = 1)) (decide (flags % 2 = 1)) 2) := by
      unfold Hid
      rw [HA.out]
      congr 1
      simp [hlo]
    go_enter Tryd.func41, Tryd.ntmps41
    go_wp2_with fail
    generalize w.alloc (.cells #[.int .i64 1, .int .i64 0] 3) = w1 at *
    go_loopw [25] (fun s25 wr => ∃ i : Nat, i ≤ 2 ∧ s25 = .int .i64 (i : Int) ∧ Hid (HS wr G (fun k => X k ∨ (w.heap.size ≤ k ∧ k < w1.heap.size)) h c) ∧ Hid (Safe (fun k => X k ∨ (w.heap.size ≤ k ∧ k < w1.heap.size)) w1 wr) ∧ Hid (h.attempt cpu order t (decide (flags / 8 % 2 = 1)) (decide (flags % 2 = 1)) = h.tries cpu order t (decide (flags / 8 % 2 = 1)) (decide (flags % 2 = 1)) (2 - i))) (fun s25 _ => 2 - (intOf s25).toNat)
    case atStart => exact ⟨0, by omega, rfl, HS0, Safe.refl _ _, HA2⟩
    case round =>
      obtain ⟨i, hi, rfl, HSr, SFr, HTR⟩ := hrel
      clear HA HA2
      have HOr := Hid.mk (HO0.out.safe SFr.out (Or.inl hx0))
      have KZr := SFr.out.box KZ.out hsz (show (fun k => X k ∨ (w.heap.size ≤ k ∧ k < w1.heap.size)) w.heap.size from .inr ⟨Nat.le_refl _, hsz⟩)
      have z0 := KZr 0
      have z1 := KZr 1
      simp only [List.getElem?_toArray, List.getElem?_cons_zero, List.getElem?_cons_succ] at z0 z1
      clear KZr
      obtain rfl | rfl | rfl : i = 0 ∨ i = 1 ∨ i = 2 := by omega
      · skip
        have HRT : Hid (h.attempt cpu order t (decide (flags / 8 % 2 = 1)) (decide (flags % 2 = 1)) = match h.ask cpu 1 order t (decide (flags / 8 % 2 = 1)) (decide (flags % 2 = 1)) with
          | some x => some x
          | none => h.tries cpu order t (decide (flags / 8 % 2 = 1)) (decide (flags % 2 = 1)) 1) := HTR.out
        by_cases h0 : order = 0
        · have d0 : ((order : Int) == 0) = true := by rw [beq_iff_eq]; omega
          have H0 := Hid.mk h0
          clear h0
          go_wp2_with fail
          refine (single_pg G cpu 1 t flags (fun k => X k ∨ (w.heap.size ≤ k ∧ k < w1.heap.size)) h c wr HSr.out HK.out hc (by omega) ht hf HOr.out (Or.inl hx0)).mono ?_
          rintro ev w4 (⟨hno, rfl, hs', sf'⟩ | ⟨h', a, c', hso, rfl, hs', sf'⟩)
          · have HN : Hid (h.ask cpu 1 order t (decide (flags / 8 % 2 = 1)) (decide (flags % 2 = 1)) = none) := by
              unfold Hid Hp.ask
              rw [if_pos H0.out]
              exact hno
            have HRT2 : Hid (h.attempt cpu order t (decide (flags / 8 % 2 = 1)) (decide (flags % 2 = 1)) = h.tries cpu order t (decide (flags / 8 % 2 = 1)) (decide (flags % 2 = 1)) (2 - 1)) := by
              unfold Hid
              rw [HRT.out, HN.out]
            have HS4 := Hid.mk hs'
            have SF4 := Hid.mk (SFr.out.trans sf')
            clear hno hs' sf'
            go_wp2
            go_roundw
            case rel => exact ⟨1, by omega, by go_num, HS4, SF4, HRT2⟩
            case measure => simp [intOf]
          · have HN : Hid (h.attempt cpu order t (decide (flags / 8 % 2 = 1)) (decide (flags % 2 = 1)) = some (h', a)) := by
              have e : h.ask cpu 1 order t (decide (flags / 8 % 2 = 1)) (decide (flags % 2 = 1)) = some (h', a) := by
                unfold Hp.ask
                rw [if_pos H0.out]
                exact hso
              unfold Hid
              rw [HRT.out, e]
            have HS4 := Hid.mk (hs'.sub (Y := X) fun k hk => .inl hk)
            have SF4 := Hid.mk (HSF0.out.trans ((SFr.out.trans sf').sub fun k _ hk => .inl hk))
            clear hso hs' sf'
            go_wp2
            go_ret2
            exact .inr ⟨h', a, c', HN.out, rfl, HS4.out, SF4.out⟩
        · have d0 : ((order : Int) == 0) = false := by rw [beq_eq_false_iff_ne]; omega
          have H0 := Hid.mk h0
          clear h0
          go_wp2_with fail
          refine (take_pg G 1 order t flags (fun k => X k ∨ (w.heap.size ≤ k ∧ k < w1.heap.size)) h c wr HSr.out HK.out (by omega) hor ht hf HOr.out).mono ?_
          rintro ev w4 (⟨hno, rfl, hs', sf'⟩ | ⟨h', a, y0', y1', hso, rfl, hs', sf'⟩)
          · have HN : Hid (h.ask cpu 1 order t (decide (flags / 8 % 2 = 1)) (decide (flags % 2 = 1)) = none) := by
              unfold Hid Hp.ask
              rw [if_neg H0.out]
              exact hno
            have HRT2 : Hid (h.attempt cpu order t (decide (flags / 8 % 2 = 1)) (decide (flags % 2 = 1)) = h.tries cpu order t (decide (flags / 8 % 2 = 1)) (decide (flags % 2 = 1)) (2 - 1)) := by
              unfold Hid
              rw [HRT.out, HN.out]
            have HS4 := Hid.mk hs'
            have SF4 := Hid.mk (SFr.out.trans sf')
            clear hno hs' sf'
            go_wp2
            go_roundw
            case rel => exact ⟨1, by omega, by go_num, HS4, SF4, HRT2⟩
            case measure => simp [intOf]
          · have HN : Hid (h.attempt cpu order t (decide (flags / 8 % 2 = 1)) (decide (flags % 2 = 1)) = some (h', a)) := by
              have e : h.ask cpu 1 order t (decide (flags / 8 % 2 = 1)) (decide (flags % 2 = 1)) = some (h', a) := by
                unfold Hp.ask
                rw [if_neg H0.out]
                exact hso
              unfold Hid
              rw [HRT.out, e]
            have HS4 := Hid.mk (hs'.sub (Y := X) fun k hk => .inl hk)
            have SF4 := Hid.mk (HSF0.out.trans ((SFr.out.trans sf').sub fun k _ hk => .inl hk))
            clear hso hs' sf'
            go_wp2
            go_ret2
            exact .inr ⟨h', a, _, HN.out, rfl, HS4.out, SF4.out⟩
      · skip
        have HRT : Hid (h.attempt cpu order t (decide (flags / 8 % 2 = 1)) (decide (flags % 2 = 1)) = match h.ask cpu 0 order t (decide (flags / 8 % 2 = 1)) (decide (flags % 2 = 1)) with
          | some x => some x
          | none => h.tries cpu order t (decide (flags / 8 % 2 = 1)) (decide (flags % 2 = 1)) 0) := HTR.out
        by_cases h0 : order = 0
        · have d0 : ((order : Int) == 0) = true := by rw [beq_iff_eq]; omega
          have H0 := Hid.mk h0
          clear h0
          go_wp2_with fail
          refine (single_pg G cpu 0 t flags (fun k => X k ∨ (w.heap.size ≤ k ∧ k < w1.heap.size)) h c wr HSr.out HK.out hc (by omega) ht hf HOr.out (Or.inl hx0)).mono ?_
          rintro ev w4 (⟨hno, rfl, hs', sf'⟩ | ⟨h', a, c', hso, rfl, hs', sf'⟩)
          · have HN : Hid (h.ask cpu 0 order t (decide (flags / 8 % 2 = 1)) (decide (flags % 2 = 1)) = none) := by
              unfold Hid Hp.ask
              rw [if_pos H0.out]
              exact hno
            have HRT2 : Hid (h.attempt cpu order t (decide (flags / 8 % 2 = 1)) (decide (flags % 2 = 1)) = h.tries cpu order t (decide (flags / 8 % 2 = 1)) (decide (flags % 2 = 1)) (2 - 2)) := by
              unfold Hid
              rw [HRT.out, HN.out]
            have HS4 := Hid.mk hs'
            have SF4 := Hid.mk (SFr.out.trans sf')
            clear hno hs' sf'
            go_wp2
            go_roundw
            case rel => exact ⟨2, by omega, by go_num, HS4, SF4, HRT2⟩
            case measure => simp [intOf]
          · have HN : Hid (h.attempt cpu order t (decide (flags / 8 % 2 = 1)) (decide (flags % 2 = 1)) = some (h', a)) := by
              have e : h.ask cpu 0 order t (decide (flags / 8 % 2 = 1)) (decide (flags % 2 = 1)) = some (h', a) := by
                unfold Hp.ask
                rw [if_pos H0.out]
                exact hso
              unfold Hid
              rw [HRT.out, e]
            have HS4 := Hid.mk (hs'.sub (Y := X) fun k hk => .inl hk)
            have SF4 := Hid.mk (HSF0.out.trans ((SFr.out.trans sf').sub fun k _ hk => .inl hk))
            clear hso hs' sf'
            go_wp2
            go_ret2
            exact .inr ⟨h', a, c', HN.out, rfl, HS4.out, SF4.out⟩
        · have d0 : ((order : Int) == 0) = false := by rw [beq_eq_false_iff_ne]; omega
          have H0 := Hid.mk h0
          clear h0
          go_wp2_with fail
          refine (take_pg G 0 order t flags (fun k => X k ∨ (w.heap.size ≤ k ∧ k < w1.heap.size)) h c wr HSr.out HK.out (by omega) hor ht hf HOr.out).mono ?_
          rintro ev w4 (⟨hno, rfl, hs', sf'⟩ | ⟨h', a, y0', y1', hso, rfl, hs', sf'⟩)
          · have HN : Hid (h.ask cpu 0 order t (decide (flags / 8 % 2 = 1)) (decide (flags % 2 = 1)) = none) := by
              unfold Hid Hp.ask
              rw [if_neg H0.out]
              exact hno
            have HRT2 : Hid (h.attempt cpu order t (decide (flags / 8 % 2 = 1)) (decide (flags % 2 = 1)) = h.tries cpu order t (decide (flags / 8 % 2 = 1)) (decide (flags % 2 = 1)) (2 - 2)) := by
              unfold Hid
              rw [HRT.out, HN.out]
            have HS4 := Hid.mk hs'
            have SF4 := Hid.mk (SFr.out.trans sf')
            clear hno hs' sf'
            go_wp2
            go_roundw
            case rel => exact ⟨2, by omega, by go_num, HS4, SF4, HRT2⟩
            case measure => simp [intOf]
          · have HN : Hid (h.attempt cpu order t (decide (flags / 8 % 2 = 1)) (decide (flags % 2 = 1)) = some (h', a)) := by
              have e : h.ask cpu 0 order t (decide (flags / 8 % 2 = 1)) (decide (flags % 2 = 1)) = some (h', a) := by
                unfold Hp.ask
                rw [if_neg H0.out]
                exact hso
              unfold Hid
              rw [HRT.out, e]
            have HS4 := Hid.mk (hs'.sub (Y := X) fun k hk => .inl hk)
            have SF4 := Hid.mk (HSF0.out.trans ((SFr.out.trans sf').sub fun k _ hk => .inl hk))
            clear hso hs' sf'
            go_wp2
            go_ret2
            exact .inr ⟨h', a, _, HN.out, rfl, HS4.out, SF4.out⟩
      · have HS4 := Hid.mk (HSr.out.sub (Y := X) fun k hk => .inl hk)
        have SF4 := Hid.mk (HSF0.out.trans (SFr.out.sub fun k _ hk => .inl hk))
        go_wp2
        go_ret2
        exact .inl ⟨HTR.out, rfl, HS4.out, SF4.out⟩
end Go.Proofs.YtjljcifpcljlaaaDoor
/- Contract of package pages: Drain. -/
namespace Go.Proofs.YtjljcifpcljlaaaDoor
open Go.RowKit
set_option linter.unusedVariables false

set_option maxHeartbeats 8000000 in
set_option maxRecDepth 100000 in
theorem drainH_pg (az am al av : Option Addr) (cz cm cl cv nl nv : Nat) (y0 y1 : Zc) (lc : List Lc) (h : Hp) (w : World) (hh : HAt w az am al av nl nv y0 y1 lc h) (hk : HOk h) (hnl : nl ≤ 1000) (hnv : nv ≤ 1000) :
    Calls Tryd.prog 19 #[.agg #[.slice az 2 cz, .slice am 2 cm, .int .i64 h.cpus, .slice al nl cl, .slice av nv cv]] w fun ev w' => ∃ c' : Hc, ev = .returned (.tuple #[.agg (c'.vals h.drain), .int .i64 0]) ∧ HNew w' w.heap.size h.drain c' ∧ Below w.heap.size w w' := by
  obtain ⟨K1, K2, F1, F2, hsz, hbw⟩ := boxes2 w #[.slice az 2 cz, .slice am 2 cm, .int .i64 (h.cpus : Int), .slice al nl cl, .slice av nv cv] 34 #[.slice none 0 0, .slice none 0 0, .int .i64 0, .slice none 0 0, .slice none 0 0] 34
  have HH := Hid.mk (hh.below hbw)
  have HK := Hid.mk hk
  have HB1 := Hid.mk hbw
  have hcp : h.drain.cpus = h.cpus := hk.drain.2.2.1.cpus
  have HCP := Hid.mk hcp
  have k10 := K1 0
  have k11 := K1 1
  have k12 := K1 2
  have k13 := K1 3
  have k14 := K1 4
  simp only [List.getElem?_toArray, List.getElem?_cons_zero, List.getElem?_cons_succ] at k10 k11 k12 k13 k14
  clear hh hk hbw hcp
  go_enter Tryd.func19, Tryd.ntmps19
  go_wp2_with fail
  generalize (w.alloc (.cells #[.slice az 2 cz, .slice am 2 cm, .int .i64 (h.cpus : Int), .slice al nl cl, .slice av nv cv] 34)).alloc (.cells #[.slice none 0 0, .slice none 0 0, .int .i64 0, .slice none 0 0, .slice none 0 0] 34) = w1 at *
  refine (checkH_pg _ _ _ _ _ _ _ _ _ _ _ _ _ h w1 HH.out HK.out hnl hnv).mono ?_
  rintro ev w2 ⟨rfl, hb2⟩
  have K1a := box_step K1 (by omega) hb2
  have F1a := frz_step F1 (by omega) hb2
  have K2a := box_step K2 hsz hb2
  have F2a := frz_step F2 hsz hb2
  have HH2 := Hid.mk (HH.out.below hb2)
  have HB2 := Hid.mk (Below.trans HB1.out (hb2.mono HB1.out.size))
  have hsz2 : w.heap.size + 1 < w2.heap.size := Nat.lt_of_lt_of_le hsz hb2.size
  clear k10 k11 k12 k13 k14 hb2 K1 F1 K2 F2
  have k10 := K1a 0
  have k11 := K1a 1
  have k12 := K1a 2
  have k13 := K1a 3
  have k14 := K1a 4
  simp only [List.getElem?_toArray, List.getElem?_cons_zero, List.getElem?_cons_succ] at k10 k11 k12 k13 k14
  go_wp2_with fail
  refine (copyH_pg _ _ _ _ _ _ _ _ _ _ _ _ _ h w2 HH2.out HK.out hnv).mono ?_
  rintro ev w3 ⟨g, c, rfl, hs3, hg3, hb3⟩
  have K1b := box_step K1a (by omega) hb3
  have F1b := frz_step F1a (by omega) hb3
  have K2b := Hid.mk (box_step K2a hsz2 hb3)
  have F2b := Hid.mk (frz_step F2a hsz2 hb3)
  have HS4 := Hid.mk (hs3.move (B := w.heap.size) (show w.heap.size < w2.heap.size by omega) K1b F1b)
  have HB3 := Hid.mk (Below.trans HB2.out (hb3.mono HB2.out.size))
  clear k10 k11 k12 k13 k14 K1a F1a K2a F2a hs3 HH HH2 hg3
  have k10 := K1b 0
  have k11 := K1b 1
  have k12 := K1b 2
  have k13 := K1b 3
  have k14 := K1b 4
  have f10 := F1b 0
  have f11 := F1b 1
  have f12 := F1b 2
  have f13 := F1b 3
  have f14 := F1b 4
  simp only [List.getElem?_toArray, List.getElem?_cons_zero, List.getElem?_cons_succ] at k10 k11 k12 k13 k14
  unfold Hc.vals
  go_wp2_with fail
  have HS4' : Hid (HS (((((w3.setCell ⟨w.heap.size, 0, none⟩ (.slice c.az 2 c.cz)).setCell ⟨w.heap.size, 1, none⟩ (.slice c.am 2 c.cm)).setCell ⟨w.heap.size, 2, none⟩ (.int .i64 (h.cpus : Int))).setCell ⟨w.heap.size, 3, none⟩ (.slice c.al c.lc.length c.cl)).setCell ⟨w.heap.size, 4, none⟩ (.slice c.av h.live.length c.cv)) w.heap.size (fun k => k < w2.heap.size ∧ k ≠ w.heap.size) h c) := HS4
  have hne1 : w.heap.size + 1 ≠ w.heap.size := by omega
  have K2c := Hid.mk (box_set_other (box_set_other (box_set_other (box_set_other (box_set_other K2b.out hne1 0 (.slice c.az 2 c.cz)) hne1 1 (.slice c.am 2 c.cm)) hne1 2 (.int .i64 (h.cpus : Int))) hne1 3 (.slice c.al c.lc.length c.cl)) hne1 4 (.slice c.av h.live.length c.cv))
  have F2c := Hid.mk (frz_set (frz_set (frz_set (frz_set (frz_set F2b.out ⟨w.heap.size, 0, none⟩ (.slice c.az 2 c.cz)) ⟨w.heap.size, 1, none⟩ (.slice c.am 2 c.cm)) ⟨w.heap.size, 2, none⟩ (.int .i64 (h.cpus : Int))) ⟨w.heap.size, 3, none⟩ (.slice c.al c.lc.length c.cl)) ⟨w.heap.size, 4, none⟩ (.slice c.av h.live.length c.cv))
  have hle0 : w.heap.size ≤ w.heap.size := Nat.le_refl _
  have HB4 := Hid.mk (Below.setCell (Below.setCell (Below.setCell (Below.setCell (Below.setCell HB3.out (show w.heap.size ≤ (⟨w.heap.size, 0, none⟩ : Addr).block from hle0) (.slice c.az 2 c.cz)) (show w.heap.size ≤ (⟨w.heap.size, 1, none⟩ : Addr).block from hle0) (.slice c.am 2 c.cm)) (show w.heap.size ≤ (⟨w.heap.size, 2, none⟩ : Addr).block from hle0) (.int .i64 (h.cpus : Int))) (show w.heap.size ≤ (⟨w.heap.size, 3, none⟩ : Addr).block from hle0) (.slice c.al c.lc.length c.cl)) (show w.heap.size ≤ (⟨w.heap.size, 4, none⟩ : Addr).block from hle0) (.slice c.av h.live.length c.cv))
  have hsz4 : w.heap.size + 1 < (((((w3.setCell ⟨w.heap.size, 0, none⟩ (.slice c.az 2 c.cz)).setCell ⟨w.heap.size, 1, none⟩ (.slice c.am 2 c.cm)).setCell ⟨w.heap.size, 2, none⟩ (.int .i64 (h.cpus : Int))).setCell ⟨w.heap.size, 3, none⟩ (.slice c.al c.lc.length c.cl)).setCell ⟨w.heap.size, 4, none⟩ (.slice c.av h.live.length c.cv)).heap.size := by have := hb3.size; simp; omega
  clear k10 k11 k12 k13 k14 f10 f11 f12 f13 f14 K1b F1b K2b F2b HS4 hb3 HB3
  generalize (((((w3.setCell ⟨w.heap.size, 0, none⟩ (.slice c.az 2 c.cz)).setCell ⟨w.heap.size, 1, none⟩ (.slice c.am 2 c.cm)).setCell ⟨w.heap.size, 2, none⟩ (.int .i64 (h.cpus : Int))).setCell ⟨w.heap.size, 3, none⟩ (.slice c.al c.lc.length c.cl)).setCell ⟨w.heap.size, 4, none⟩ (.slice c.av h.live.length c.cv)) = w4 at *
  have hX1 : (fun k => k < w2.heap.size ∧ k ≠ w.heap.size) (w.heap.size + 1) := ⟨hsz2, hne1⟩
  refine (drain_pg w.heap.size (fun k => k < w2.heap.size ∧ k ≠ w.heap.size) h c w4 HS4'.out HK.out).mono ?_
  rintro ev w5 ⟨rfl, ⟨c5, hs5⟩, sf5⟩
  have K5 := sf5.box K2c.out hsz4 hX1
  have F5 := sf5.frz F2c.out hsz4 hX1
  have HB5 := Hid.mk (Safe.after HB4.out sf5 (B := w.heap.size) (fun k hk => ⟨by omega, by omega⟩) (by omega))
  obtain ⟨q0, q1, q2, q3, q4⟩ := hs5.words
  have HSX := Hid.mk (((((hs5.far hX1 0 (.slice c5.az 2 c5.cz)).far hX1 1 (.slice c5.am 2 c5.cm)).far hX1 2 (.int .i64 (h.drain.cpus : Int))).far hX1 3 (.slice c5.al c5.lc.length c5.cl)).far hX1 4 (.slice c5.av h.drain.live.length c5.cv))
  have hle1 : w.heap.size ≤ w.heap.size + 1 := Nat.le_succ _
  have HBX := Hid.mk (Below.setCell (Below.setCell (Below.setCell (Below.setCell (Below.setCell HB5.out (show w.heap.size ≤ (⟨w.heap.size + 1, 0, none⟩ : Addr).block from hle1) (.slice c5.az 2 c5.cz)) (show w.heap.size ≤ (⟨w.heap.size + 1, 1, none⟩ : Addr).block from hle1) (.slice c5.am 2 c5.cm)) (show w.heap.size ≤ (⟨w.heap.size + 1, 2, none⟩ : Addr).block from hle1) (.int .i64 (h.drain.cpus : Int))) (show w.heap.size ≤ (⟨w.heap.size + 1, 3, none⟩ : Addr).block from hle1) (.slice c5.al c5.lc.length c5.cl)) (show w.heap.size ≤ (⟨w.heap.size + 1, 4, none⟩ : Addr).block from hle1) (.slice c5.av h.drain.live.length c5.cv))
  have KX := box_set (box_set (box_set (box_set (box_set K5 0 (.slice c5.az 2 c5.cz)) 1 (.slice c5.am 2 c5.cm)) 2 (.int .i64 (h.drain.cpus : Int))) 3 (.slice c5.al c5.lc.length c5.cl)) 4 (.slice c5.av h.drain.live.length c5.cv)
  have k10 := K5 0
  have k11 := K5 1
  have k12 := K5 2
  have k13 := K5 3
  have k14 := K5 4
  have f10 := F5 0
  have f11 := F5 1
  have f12 := F5 2
  have f13 := F5 3
  have f14 := F5 4
  simp only [List.getElem?_toArray, List.getElem?_cons_zero, List.getElem?_cons_succ] at k10 k11 k12 k13 k14
  clear hs5 sf5 HS4' K2c F2c HB4
  go_wp2
  generalize (((((w5.setCell ⟨w.heap.size + 1, 0, none⟩ (.slice c5.az 2 c5.cz)).setCell ⟨w.heap.size + 1, 1, none⟩ (.slice c5.am 2 c5.cm)).setCell ⟨w.heap.size + 1, 2, none⟩ (.int .i64 (h.drain.cpus : Int))).setCell ⟨w.heap.size + 1, 3, none⟩ (.slice c5.al c5.lc.length c5.cl)).setCell ⟨w.heap.size + 1, 4, none⟩ (.slice c5.av h.drain.live.length c5.cv)) = wx at *
  change ∀ o, wx.cell? ⟨w.heap.size + 1, o, none⟩ = (#[.slice c5.az 2 c5.cz, .slice c5.am 2 c5.cm, .int .i64 (h.drain.cpus : Int), .slice c5.al c5.lc.length c5.cl, .slice c5.av h.drain.live.length c5.cv] : Array Value)[o]? at KX
  refine bodyPost_ret (v := .tuple #[.agg #[.slice c5.az 2 c5.cz, .slice c5.am 2 c5.cm, .int .i64 (h.drain.cpus : Int), .slice c5.al c5.lc.length c5.cl, .slice c5.av h.drain.live.length c5.cv], .int .i64 0]) (by simp [results, Tryd.results19, go_sem, KX]) rfl ⟨c5, rfl, HSX.out.r.sub (fun k hk => ⟨by omega, by omega⟩), HBX.out⟩
end Go.Proofs.YtjljcifpcljlaaaDoor
/- Contract of slices.Insert at api.Block, one element: where the row lies (printed by tools/insl.py). -/
namespace Go.Proofs.YtjljcifpcljlaaaDoor
open Go.RowKit
set_option linter.unusedVariables false
attribute [local go_sem ↓] sliced_cut

set_option maxRecDepth 100000 in
theorem insertB_end (base : Nat) (a : Option Addr) (n c g : Nat) (l : List Bk) (b : Bk) (w : World) (hown : w.ownsRow base 40 3 (.slice a n c) n (flat encBk l)) (hn : n ≤ 1000) (hbase : base ≤ w.heap.size) (hv : Row w (some ⟨g, 0, none⟩) (encBk b)) :
    Calls Tryd.prog 44 #[.slice a n c, .int .i64 n, .slice (some ⟨g, 0, none⟩) 1 1] w fun ev w' => ∃ a' c', ev = .returned (.slice a' (n + 1) c') ∧ w'.ownsRow base 40 3 (.slice a' (n + 1) c') (n + 1) (flat encBk (l ++ [b])) ∧ w.grownBy w' (Value.ownBlock (.slice a n c)) ∧ (∀ k, (Value.slice a' (n + 1) c').ownBlock = some k → (Value.slice a n c).ownBlock = some k ∨ w.heap.size ≤ k) := by
  have hnc := own_cap hown
  have HO := Hid.mk hown
  clear hown
  have b2 : (n : Int) ≤ c := by omega
  obtain ⟨ti, hti, htz, hts, htb⟩ := info_parts info_bk
  have hnews : ∀ j u, (encBk b)[j]? = some u → w.cell? ((⟨g, 0, none⟩ : Addr).add j) = some u := fun j u hj => by
    obtain ⟨b', off, e, _, h2⟩ := hv j u hj
    obtain ⟨rfl, rfl⟩ : g = b' ∧ 0 = off := by simpa using e
    rw [Addr.add_lit]; exact h2
  go_enter Tryd.func44, Tryd.ntmps44
  go_wp2_with (at_builtin; refine wpList_append_lies _ rfl _ _ 32 rfl base 40 ti (.agg #[.int .i64 0, .int .i64 0, .int .i64 0]) 3 24 Tryd.underlying32 hti htz hts htb rfl (by decide) _ n _ rfl HO.out ⟨g, 0, none⟩ 1 1 (encBk b) rfl rfl hnews (by simp [encBk, vI, Value.oneCell']) (by decide) (by unfold maxLen; omega) (by omega) hbase _ rfl ?_)
  intro g1 c' w1 hown1 hg hlies hlt1
  rw [show flat encBk l ++ encBk b = flat encBk (l ++ [b]) from by rw [flat_append, flat_one]] at hown1
  have HO1 := Hid.mk hown1
  have HL1 := Hid.mk hlies
  clear hown1 HO hnews hlies
  go_wp2
  go_ret
  exact ⟨_, c', rfl, HO1.out, hg, fun k hk => by
    obtain rfl : g1 = k := by simpa [Value.ownBlock] using hk
    rcases HL1.out with h | h
    · exact .inl h
    · exact .inr (Nat.le_of_eq h.symm)⟩

set_option maxRecDepth 100000 in
theorem insertB_grow (base : Nat) (a : Option Addr) (n c g i : Nat) (l : List Bk) (b : Bk) (w : World) (hown : w.ownsRow base 40 3 (.slice a n c) n (flat encBk l)) (hi : i < n) (hn : n ≤ 1000) (hc : c < n + 1) (hbase : base ≤ w.heap.size) (hv : Row w (some ⟨g, 0, none⟩) (encBk b)) :
    Calls Tryd.prog 44 #[.slice a n c, .int .i64 i, .slice (some ⟨g, 0, none⟩) 1 1] w fun ev w' => ∃ a' c', ev = .returned (.slice a' (n + 1) c') ∧ w'.ownsRow base 40 3 (.slice a' (n + 1) c') (n + 1) (flat encBk (l.take i ++ b :: l.drop i)) ∧ w.grownBy w' (Value.ownBlock (.slice a n c)) ∧ (∀ k, (Value.slice a' (n + 1) c').ownBlock = some k → (Value.slice a n c).ownBlock = some k ∨ w.heap.size ≤ k) := by
  have hnc := own_cap hown
  have hln : l.length = n := own_flat_len encBk_length (by decide) hown
  have hfl := flat_length encBk_length l
  obtain ⟨G, zs, w1, hrz, hzl, hown1, hg1⟩ := run_app0 (P := Tryd.prog) 32 3 32 40 Tryd.underlying32 Tryd.underlying3 (.agg #[.int .i64 0, .int .i64 0, .int .i64 0]) 3 24 info_bk rfl (by decide) a i c _ base (own_prefix hown (show i ≤ n by omega)) (n + 1 - i) (by omega) (by omega) (by omega) (by omega)
  rw [show i + (n + 1 - i) = n + 1 by omega] at hrz hown1
  rw [show ((n + 1 - i : Nat) : Int) = (n : Int) + 1 - (i : Int) by omega] at hrz
  rw [flat_take encBk_length] at hown1
  have HR := Hid.mk (own_row hown)
  have hGn := own_cap hown1
  have HO1 := Hid.mk hown1
  have HG1 := Hid.mk hg1
  have hbw := Hid.mk ((Below.refl w.heap.size w).grown hg1 (Nat.le_refl _) (by simp))
  have b0 : (i : Int) ≤ n := by omega
  have b2 : (i : Int) ≤ c := by omega
  have b3 : ¬ (i : Int) = n := by omega
  have b4 : (c : Int) < (n : Int) + 1 := by omega
  have b5 : (i : Int) ≤ (n : Int) + 1 := by omega
  have b6 : ((n + 1 : Nat) : Int) ≤ G := by omega
  have hsz : (Tryd.prog.info? 40).map (·.size) = some 3 := by kernel_rfl
  have hv1 := hv.mono hbw.out (Nat.le_refl _)
  have htl : (flat encBk (l.take i)).length = i * 3 := by rw [flat_length encBk_length, List.length_take]; omega
  have hcut1 : cutA (some ⟨w.heap.size, 0, none⟩) i G 3 = (some ⟨w.heap.size, 0, none⟩ : Option Addr).map (·.add (i * 3)) := by unfold cutA; rw [if_neg (by omega)]
  have hcut2 : cutA (some ⟨w.heap.size, 0, none⟩) (i + 1) G 3 = (some ⟨w.heap.size, 0, none⟩ : Option Addr).map (·.add ((i + 1) * 3)) := by unfold cutA; rw [if_neg (by omega)]
  obtain ⟨w2, hcp1, hown2, hg2⟩ := run_cp (P := Tryd.prog) 32 32 3 40 Tryd.underlying32 3 hsz (cutA (some ⟨w.heap.size, 0, none⟩) i G 3) (some ⟨g, 0, none⟩) (n + 1 - i) (G - i) 1 1 (encBk b) (by rw [show Nat.min 1 (n + 1 - i) = 1 from Nat.min_eq_left (by omega)]; rfl) hv1 (by simp [encBk, vI, Value.oneCell']) w.heap.size (n + 1) G i (some ⟨w.heap.size, 0, none⟩) _ HO1.out (fun _ => hcut1) (fun h => by rw [hcut1] at h; simp at h) (by rw [encBk_length]; omega)
  rw [encBk_length, List.take_left' htl, ← Nat.succ_mul] at hown2
  have hdrop : (flat encBk (l.take i) ++ zs).drop ((i + 1) * 3) = zs.drop 3 := by rw [List.drop_append, List.drop_eq_nil_of_le (by omega), htl, List.nil_append]; congr 1; omega
  rw [Nat.succ_eq_add_one, hdrop] at hown2
  have hbw2 := (hbw.out.grown hg2 hbw.out.size (by intro k hk; simp [Value.ownBlock] at hk; omega)).drew
  have hown2d := own_below hown2 ((Below.refl w2.heap.size w2).drew) (Nat.le_refl _)
  have hrow := ((own_row hown).mono hbw2 (Nat.le_refl _)).cut i c 3 ((n - i) * 3) (by omega)
  rw [List.take_of_length_le (by rw [List.length_drop, hfl]; omega), flat_drop encBk_length] at hrow
  have hdl : (flat encBk (l.drop i)).length = (n - i) * 3 := by rw [flat_length encBk_length, List.length_drop, hln]
  obtain ⟨w3, hcp2, hown3, hg3⟩ := run_cp (P := Tryd.prog) (w := w2.drew) 32 32 3 40 Tryd.underlying32 3 hsz (cutA (some ⟨w.heap.size, 0, none⟩) (i + 1) G 3) (cutA a i c 3) (n - i) (G - (i + 1)) (n - i) (c - i) (flat encBk (l.drop i)) (by rw [hdl, show Nat.min (n - i) (n - i) = n - i from Nat.min_self _]) hrow (encBk_one _) w.heap.size (n + 1) G (i + 1) (some ⟨w.heap.size, 0, none⟩) _ hown2d (fun _ => hcut2) (fun h => by rw [hcut2] at h; simp at h) (by rw [hdl]; omega)
  rw [show (flat encBk (l.take i) ++ encBk b ++ zs.drop 3).take ((i + 1) * 3) = flat encBk (l.take i) ++ encBk b from List.take_left' (by rw [List.length_append, htl, encBk_length]; omega), hdl, show (flat encBk (l.take i) ++ encBk b ++ zs.drop 3).drop ((i + 1) * 3 + (n - i) * 3) = [] from List.drop_eq_nil_of_le (by simp only [List.length_append, htl, encBk_length, List.length_drop, hzl]; omega), List.append_nil, ← flat_one encBk b, ← flat_append, ← flat_append, List.append_assoc, List.singleton_append] at hown3
  have HO3 := Hid.mk (own_base hown3 hbase)
  have HG3 : Hid (w.grownBy w3 (Value.ownBlock (.slice a n c))) := by
    have h1 := HG1.out
    refine ⟨hg3.os.trans (hg2.os.trans h1.os), hg3.tape.trans (hg2.tape.trans h1.tape), hg3.output.trans (hg2.output.trans h1.output), Nat.le_trans h1.size (Nat.le_trans hg2.size hg3.size), fun k hk hne => ?_⟩
    have e1 : some k ≠ Value.ownBlock (.slice (some ⟨w.heap.size, 0, none⟩) (n + 1) G) := by simp [Value.ownBlock]; omega
    exact (hg3.block k (Nat.lt_of_lt_of_le hk (Nat.le_trans h1.size hg2.size)) e1).trans ((hg2.block k (Nat.lt_of_lt_of_le hk h1.size) e1).trans (h1.block k hk (by simp)))
  have b7 : ((i : Int) + 1) ≤ G := by omega
  have s1 : IntKind.i64.wrap ((i : Int) + 1) = (i : Int) + 1 := IntWalk.i64_in _ (by omega)
  have b8 : 0 ≤ (i : Int) + 1 := by omega
  have b9 : ((i : Int) + 1).toNat = i + 1 := by omega
  have b10 : (i : Int) + 1 ≤ (n : Int) + 1 := by omega
  clear hown hown2 hown2d hown3 hg1 hg2 hg3 hown1 hrow hv1 hbw2 HO1 HR HG1 hdrop hcut1 hcut2
  go_enter Tryd.func44, Tryd.ntmps44
  go_wp2_with (at_builtin; refine wpList_app_run rfl _ _ 32 3 rfl _ _ rfl rfl hrz ?_)
  go_still_tail 8, (by kernel_rfl)
  change wpList _ _ _ _ _ w2.drew
  generalize w2.drew = w2d at *
  go_wp2
  go_ret
  exact ⟨_, _, rfl, HO3.out, HG3.out, fun k hk => .inr (by simp [Value.ownBlock] at hk; omega)⟩
set_option maxHeartbeats 1000000 in
set_option maxRecDepth 100000 in
theorem insertB_shift (base : Nat) (a : Option Addr) (n c g i : Nat) (l : List Bk) (b : Bk) (w : World) (hown : w.ownsRow base 40 3 (.slice a n c) n (flat encBk l)) (hi : i < n) (hn : n ≤ 1000) (hc : n + 1 ≤ c) (hbase : base ≤ w.heap.size) (hgb : w.heap[g]? = some (.cells (encBk b).toArray 40 (0, 0))) (hne : some g ≠ Value.ownBlock (.slice a n c)) (hv : Row w (some ⟨g, 0, none⟩) (encBk b)) :
    Calls Tryd.prog 44 #[.slice a n c, .int .i64 i, .slice (some ⟨g, 0, none⟩) 1 1] w fun ev w' => ∃ a' c', ev = .returned (.slice a' (n + 1) c') ∧ w'.ownsRow base 40 3 (.slice a' (n + 1) c') (n + 1) (flat encBk (l.take i ++ b :: l.drop i)) ∧ w.grownBy w' (Value.ownBlock (.slice a n c)) ∧ (∀ k, (Value.slice a' (n + 1) c').ownBlock = some k → (Value.slice a n c).ownBlock = some k ∨ w.heap.size ≤ k) := by
  have hln : l.length = n := own_flat_len encBk_length (by decide) hown
  have hfl := flat_length encBk_length l
  obtain ⟨g0, cur, rfl, hg0, hcs, hcm⟩ : ∃ g0 cur, a = some ⟨g0, 0, none⟩ ∧ w.heap[g0]? = some (.cells cur 40 (0, 0)) ∧ cur.size = c * 3 ∧ c ≤ maxLen := by
    rcases hown.2 with ⟨h', h2⟩ | ⟨g0, cap, cur, h', _, hg, _, hcm, hs, _⟩
    · omega
    · obtain ⟨rfl, rfl⟩ : a = some ⟨g0, 0, none⟩ ∧ c = cap := by simpa using h'
      exact ⟨g0, cur, rfl, hg, hs, hcm⟩
  have hgg : g ≠ g0 := fun e => hne (by rw [e]; rfl)
  have hcut : ∀ j, j ≤ n → cutA (some ⟨g0, 0, none⟩) j c 3 = (some ⟨g0, 0, none⟩ : Option Addr).map (·.add (j * 3)) := fun j hj => by unfold cutA; rw [if_neg (by omega)]
  have hcutl : cutA (some ⟨g0, 0, none⟩) (i + 1) c 3 = some ⟨g0, (i + 1) * 3, none⟩ := by rw [hcut _ (by omega)]; simp [Addr.add_lit]
  have hsz : (Tryd.prog.info? 40).map (·.size) = some 3 := by kernel_rfl
  have hov : (callFunc 68 #[.slice (some ⟨g, 0, none⟩) 1 1, .slice (cutA (some ⟨g0, 0, none⟩) (i + 1) c 3) (n - i) (c - (i + 1))]).run Tryd.prog w = .ok (.value (.bool false)) w := by
    rw [hcutl, run_callFunc_extern Tryd.func68 (by kernel_rfl) (by kernel_rfl) (by kernel_rfl) (e := Extern.SlicesOverlaps.overlaps #[32, 32] #[4]) (by kernel_rfl),
      Lib.run_overlaps_apart w 32 4 40 Tryd.underlying32 3 Tryd.sizeOf40 ⟨g, 0, none⟩ ⟨g0, (i + 1) * 3, none⟩ 1 1 _ _ hgg 40 40 3 (c * 3) (by simp [World.shape?, hgb, encBk]) (by simp [World.shape?, hg0, hcs]) (by omega) (by simp [World.frozen?, hgb]) (by simp [World.frozen?, hgb])]
    rfl
  obtain ⟨ys, hyl, hroom⟩ := own_room hown (show n ≤ n + 1 by omega) hc
  rw [show (n + 1 - n) * 3 = 3 by omega] at hyl
  have hdl : (flat encBk (l.drop i)).length = (n - i) * 3 := by rw [flat_length encBk_length, List.length_drop, hln]
  have htl : (flat encBk (l.take i)).length = i * 3 := by rw [flat_length encBk_length, List.length_take]; omega
  have hwd : Below w.heap.size w w.drew := (Below.refl w.heap.size w).drew
  have hroomd := own_below hroom hwd (Nat.le_refl _)
  have hrow := ((own_row hown).below hwd).cut i c 3 ((n - i) * 3) (by omega)
  rw [List.take_of_length_le (by rw [List.length_drop, hfl]; omega), flat_drop encBk_length] at hrow
  obtain ⟨w2, hcp1, hown2, hg2⟩ := run_cp (P := Tryd.prog) (w := w.drew) 32 32 3 40 Tryd.underlying32 3 hsz (cutA (some ⟨g0, 0, none⟩) (i + 1) c 3) (cutA (some ⟨g0, 0, none⟩) i c 3) (n - i) (c - (i + 1)) (n + 1 - i) (c - i) (flat encBk (l.drop i)) (by rw [hdl, show Nat.min (n + 1 - i) (n - i) = n - i from Nat.min_eq_right (by omega)]) hrow (encBk_one _) base (n + 1) c (i + 1) (some ⟨g0, 0, none⟩) _ hroomd (fun _ => hcut _ (by omega)) (fun h => by rw [hcut _ (by omega)] at h; simp at h) (by rw [hdl]; omega)
  have hX : ((flat encBk l ++ ys).take ((i + 1) * 3) ++ flat encBk (l.drop i) ++ (flat encBk l ++ ys).drop ((i + 1) * 3 + (flat encBk (l.drop i)).length)) = (flat encBk l ++ ys).take ((i + 1) * 3) ++ flat encBk (l.drop i) := by
    rw [show (flat encBk l ++ ys).drop ((i + 1) * 3 + (flat encBk (l.drop i)).length) = [] from List.drop_eq_nil_of_le (by rw [List.length_append, hfl, hdl]; omega), List.append_nil]
  rw [hX] at hown2
  have hlX : ((flat encBk l ++ ys).take ((i + 1) * 3)).length = (i + 1) * 3 := by rw [List.length_take, List.length_append, hfl]; omega
  have hv2 := row_grown (hv.below hwd) hg2 hne
  obtain ⟨w3, hcp2, hown3, hg3⟩ := run_cp (P := Tryd.prog) (w := w2) 32 32 3 40 Tryd.underlying32 3 hsz (cutA (some ⟨g0, 0, none⟩) i c 3) (some ⟨g, 0, none⟩) (n + 1 - i) (c - i) 1 1 (encBk b) (by rw [show Nat.min 1 (n + 1 - i) = 1 from Nat.min_eq_left (by omega)]; rfl) hv2 (by simp [encBk, vI, Value.oneCell']) base (n + 1) c i (some ⟨g0, 0, none⟩) _ hown2 (fun _ => hcut _ (by omega)) (fun h => by rw [hcut _ (by omega)] at h; simp at h) (by rw [encBk_length]; omega)
  have hY : ((flat encBk l ++ ys).take ((i + 1) * 3) ++ flat encBk (l.drop i)).take (i * 3) ++ encBk b ++ ((flat encBk l ++ ys).take ((i + 1) * 3) ++ flat encBk (l.drop i)).drop (i * 3 + (encBk b).length) = flat encBk (l.take i ++ b :: l.drop i) := by
    rw [encBk_length, show i * 3 + 3 = (i + 1) * 3 by omega, List.drop_left' hlX, List.take_append_of_le_length (by rw [hlX]; omega), List.take_take, show min (i * 3) ((i + 1) * 3) = i * 3 by omega, List.take_append_of_le_length (by rw [hfl]; omega), flat_take encBk_length, flat_append, flat_cons, List.append_assoc]
  rw [hY] at hown3
  have HO3 := Hid.mk hown3
  have HG3 : Hid (w.grownBy w3 (Value.ownBlock (.slice (some ⟨g0, 0, none⟩) n c))) :=
    ⟨hg3.os.trans hg2.os, hg3.tape.trans hg2.tape, hg3.output.trans hg2.output, Nat.le_trans hg2.size hg3.size, fun k hk hnk => (hg3.block k (Nat.lt_of_lt_of_le hk hg2.size) hnk).trans (hg2.block k hk hnk)⟩
  have b0 : (i : Int) ≤ n := by omega
  have b2 : (i : Int) ≤ c := by omega
  have b3 : ¬ (i : Int) = n := by omega
  have b4 : ¬ (c : Int) < (n : Int) + 1 := by omega
  have b5 : (i : Int) ≤ (n : Int) + 1 := by omega
  have b6 : (n : Int) + 1 ≤ c := by omega
  have b7 : ((i : Int) + 1) ≤ c := by omega
  have s1 : IntKind.i64.wrap ((i : Int) + 1) = (i : Int) + 1 := IntWalk.i64_in _ (by omega)
  have b8 : 0 ≤ (i : Int) + 1 := by omega
  have b9 : ((i : Int) + 1).toNat = i + 1 := by omega
  have b10 : (i : Int) + 1 ≤ (n : Int) + 1 := by omega
  have b11 : ((n : Int) + 1).toNat = n + 1 := by omega
  have b12 : c ≤ 9223372036854775807 := by unfold maxLen at hcm; omega
  clear hown hroom hroomd hrow hown2 hown3 hg2 hg3 hX hY hv hv2 hcut hcutl hg0 hgb hcs
  go_enter Tryd.func44, Tryd.ntmps44
  go_wp2_with (simp only [hov])
  go_still_tail 8, (by kernel_rfl)
  change wpList _ _ _ _ _ w.drew
  go_wp2
  go_ret
  exact ⟨_, _, rfl, HO3.out, HG3.out, fun k hk => .inl hk⟩

/-- slices.Insert at Block: one block -/
theorem insert_bk2 (base : Nat) (a : Option Addr) (n c g i : Nat) (l : List Bk) (b : Bk) (w : World) (hown : w.ownsRow base 40 3 (.slice a n c) n (flat encBk l)) (hi : i ≤ n) (hn : n ≤ 1000) (hbase : base ≤ w.heap.size) (hgb : w.heap[g]? = some (.cells (encBk b).toArray 40 (0, 0))) (hne : some g ≠ Value.ownBlock (.slice a n c)) :
    Calls Tryd.prog 44 #[.slice a n c, .int .i64 i, .slice (some ⟨g, 0, none⟩) 1 1] w fun ev w' => ∃ a' c', ev = .returned (.slice a' (n + 1) c') ∧ w'.ownsRow base 40 3 (.slice a' (n + 1) c') (n + 1) (flat encBk (l.take i ++ b :: l.drop i)) ∧ w.grownBy w' (Value.ownBlock (.slice a n c)) ∧ (∀ k, (Value.slice a' (n + 1) c').ownBlock = some k → (Value.slice a n c).ownBlock = some k ∨ w.heap.size ≤ k) := by
  have hlt : g < w.heap.size := (Array.getElem?_eq_some_iff.1 hgb).1
  have hv : Row w (some ⟨g, 0, none⟩) (encBk b) := by
    intro j v hj
    exact ⟨g, 0, rfl, hlt, by rw [Nat.zero_add, cell_of_row _ _ _ _ _ _ hgb]; simpa using hj⟩
  have hln : l.length = n := own_flat_len encBk_length (by decide) hown
  by_cases he : i = n
  · subst he
    have := insertB_end base a i c g l b w hown hn hbase hv
    rw [List.take_of_length_le (by omega), List.drop_eq_nil_of_le (by omega)]
    exact this
  · by_cases hc : n + 1 ≤ c
    · exact insertB_shift base a n c g i l b w hown (by omega) hn hc hbase hgb hne hv
    · exact insertB_grow base a n c g i l b w hown (by omega) hn (by omega) hbase hv
end Go.Proofs.YtjljcifpcljlaaaDoor
