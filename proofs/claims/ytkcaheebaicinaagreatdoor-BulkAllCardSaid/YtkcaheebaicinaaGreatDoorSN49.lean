/- Pn2: texts of this claim, joined. -/
import Derived.Test.YtkcaheebaicinaaGreatDoorSN34
import Derived.Test.YtkcaheebaicinaaGreatDoorSN48
/- Contract of package pages: New. -/
namespace Go.Proofs.YtkcaheebaicinaaGreatDoor
open Go.RowKit
set_option linter.unusedVariables false

set_option maxHeartbeats 8000000 in
set_option maxRecDepth 100000 in
theorem newH_pg (a : Option Addr) (n cap : Nat) (l : List Rg) (split least cpus : Nat) (w : World) (hn : l.length = n) (hr : Row w a (flat encRg l)) (hl : listOk l = true) (h1 : split ≤ 256) (h2 : split % 16 = 0) (h3 : least ≤ 256) (h4 : 1 ≤ cpus ∧ cpus ≤ 4) :
    Calls Tryz.prog 20 #[.slice a n cap, .int .i64 split, .int .i64 least, .int .i64 cpus] w fun ev w' => ∃ c' : Hc, ev = .returned (.tuple #[.agg (c'.vals (newH l split least cpus)), .int .i64 0]) ∧ HNew w' w.heap.size (newH l split least cpus) c' ∧ Below w.heap.size w w' := by
  obtain ⟨K8, F8, hsz, hbw⟩ := boxes1 w #[.slice none 0 0, .slice none 0 0, .int .i64 0, .slice none 0 0, .slice none 0 0] 35
  have hn40 := listOk_len hl
  have HL := Hid.mk hl
  have HR := Hid.mk (hr.below hbw)
  have HRW := Hid.mk hr
  have HB1 := Hid.mk hbw
  clear hr hbw
  go_enter Tryz.func20, Tryz.ntmps20
  go_upto_region 1 with fail
  generalize w.alloc (.cells #[.slice none 0 0, .slice none 0 0, .int .i64 0, .slice none 0 0, .slice none 0 0] 35) = w1 at *
  go_wp2_with fail
  refine (bootCheck_ok a none n 0 cap 0 l [] w1 hn rfl (by omega) (by omega) HR.out (Row.nil _ _) (listOk_small HL.out) (by simp) HL.out (by decide)).mono ?_
  rintro ev w2 ⟨rfl, hb2⟩
  have K8a := box_step K8 hsz hb2
  have F8a := frz_step F8 hsz hb2
  have HR2 := Hid.mk (HR.out.below hb2)
  have HB2 := Hid.mk (Below.step HB1.out hb2)
  have hsz2 : w.heap.size < w2.heap.size := Nat.lt_of_lt_of_le hsz hb2.size
  clear K8 F8 HR HB1 hb2 hsz
  go_wp2_with fail
  refine (new_ok 0 split (split / 8) w2 (Nat.zero_le _) h1 rfl h2 (by omega)).mono ?_
  rintro ev w3 ⟨a2, c2, rfl, hz3, hb3⟩
  have hX3 : ∀ k, (k = w.heap.size ∨ k = w3.heap.size) → (k < w2.heap.size ∨ w3.heap.size ≤ k) ∧ k ≤ w3.heap.size := fun k hk => by have := hb3.size; omega
  have HZ := Hid.mk (zbox_new (Z := w.heap.size) hz3 (Nat.le_of_lt hsz2) hX3)
  unfold zvals at HZ
  have K8b := box_step K8a hsz2 hb3
  have F8b := frz_step F8a hsz2 hb3
  have HR3 := Hid.mk (HR2.out.below hb3)
  have HB3 := Hid.mk (Below.step HB2.out hb3)
  have hsz3 : w.heap.size < w3.heap.size := Nat.lt_of_lt_of_le hsz2 hb3.size
  clear hX3
  go_upto_region 4 with fail
  have hb4 := below_alloc w3 (.cells #[.int .i64 (0 : Nat), .int .i64 (split : Int), .slice none 0 0, .slice a2 (split / 8) c2] 110)
  have K8c := box_step K8b hsz3 hb4
  have F8c := frz_step F8b hsz3 hb4
  have HR4 := Hid.mk (HR3.out.below hb4)
  have HB4 := Hid.mk (Below.step HB3.out hb4)
  have hsz4 : w.heap.size < (w3.alloc (.cells #[.int .i64 (0 : Nat), .int .i64 (split : Int), .slice none 0 0, .slice a2 (split / 8) c2] 110)).heap.size := Nat.lt_of_lt_of_le hsz3 hb4.size
  have hwB : w.heap.size < w3.heap.size := hsz3
  obtain ⟨B10, hB10⟩ : ∃ B, w3.heap.size = B := ⟨_, rfl⟩
  rw [hB10] at HZ hwB ⊢
  clear HR3 HB3 HR2 HB2 K8a F8a K8b F8b hsz2 hsz3 hb4 hz3 hb3
  change Hid (ZBox (w3.alloc (.cells #[.int .i64 (0 : Nat), .int .i64 (split : Int), .slice none 0 0, .slice a2 (split / 8) c2] 110)) _ _ _ _ _ _ _ _ _ _) at HZ
  rw [show (Value.int .i64 0) = .int .i64 ((0 : Nat) : Int) from rfl]
  generalize w3.alloc (.cells #[.int .i64 (0 : Nat), .int .i64 (split : Int), .slice none 0 0, .slice a2 (split / 8) c2] 110) = w4 at *
  go_wp2_with fail
  refine (new_ok split 256 ((256 - split) / 8) w4 h1 (Nat.le_refl _) h2 rfl rfl).mono ?_
  rintro ev w5 ⟨a3, c3, rfl, hz5, hb5⟩
  have hX5 : ∀ k, (k = w.heap.size ∨ k = B10 ∨ k = w5.heap.size) → (k < w4.heap.size ∨ w5.heap.size ≤ k) ∧ k ≤ w5.heap.size := fun k hk => by have := hb5.size; have := HZ.out.lt; omega
  have HY := Hid.mk (zbox_new (Z := w.heap.size) hz5 (Nat.le_of_lt hsz4) hX5)
  unfold zvals at HY
  have hb6 := below_alloc w5 (.cells #[.int .i64 (split : Int), .int .i64 (256 : Nat), .slice none 0 0, .slice a3 ((256 - split) / 8) c3] 110)
  have hb56 := Below.step hb5 hb6
  have K8d := box_step K8c hsz4 hb56
  have F8d := frz_step F8c hsz4 hb56
  have HR6 := Hid.mk (HR4.out.below hb56)
  have HB6 := Hid.mk (Below.step HB4.out hb56)
  have HZ6 := Hid.mk (HZ.out.new (Y := fun k => k = w.heap.size ∨ k = B10 ∨ k = w5.heap.size) hb56 (fun k hk => by have := hb5.size; have := hb6.size; simp at this; rcases hk with h | h | h; exact .inl (.inl h); exact .inl (.inr h); exact .inr (by simp; omega)))
  have hsz6 : w.heap.size < (w5.alloc (.cells #[.int .i64 (split : Int), .int .i64 (256 : Nat), .slice none 0 0, .slice a3 ((256 - split) / 8) c3] 110)).heap.size := Nat.lt_of_lt_of_le hsz4 hb56.size
  have h1012 : B10 < w5.heap.size := Nat.lt_of_lt_of_le HZ.out.lt hb5.size
  have hx1 : decide ((least : Int) < 0) = false := decide_eq_false (by omega)
  have hx2 : decide ((256 : Int) < least) = false := decide_eq_false (by omega)
  have hx3 : decide ((cpus : Int) < 1) = false := decide_eq_false (by omega)
  have hx4 : decide ((4 : Int) < cpus) = false := decide_eq_false (by omega)
  have hx5 : decide (256 < least) = false := decide_eq_false (by omega)
  have hx6 : decide (cpus < 1) = false := decide_eq_false (by omega)
  have hx7 : decide (4 < cpus) = false := decide_eq_false (by omega)
  go_upto_region 5 with fail
  obtain ⟨B12, hB12⟩ : ∃ B, w5.heap.size = B := ⟨_, rfl⟩
  rw [hB12] at HY HZ6 h1012 ⊢
  clear HZ HR4 HB4 K8c F8c hsz4 hb6 hz5 hb5 hX5 hb56
  change Hid (ZBox (w5.alloc (.cells #[.int .i64 (split : Int), .int .i64 (256 : Nat), .slice none 0 0, .slice a3 ((256 - split) / 8) c3] 110)) _ _ _ _ _ _ _ _ _ _) at HY
  rw [show (Value.int .i64 256) = .int .i64 ((256 : Nat) : Int) from rfl]
  generalize w5.alloc (.cells #[.int .i64 (split : Int), .int .i64 (256 : Nat), .slice none 0 0, .slice a3 ((256 - split) / 8) c3] 110) = w6 at *
  go_upto_region 7 with fail
  clear hx1 hx2 hx3 hx4 hx5 hx6 hx7 HR6
  go_wp2_with fail
  go_loopw [57] (fun s57 wr => ∃ (i : Nat) (x1 x2 : Option Addr) (m1 m2 d1 d2 : Nat) (y1 y2 : Option Addr) (k1 k2 e1 e2 : Nat), i ≤ n ∧ s57 = .int .i64 (i : Int) ∧ Hid (ZBox wr w.heap.size B10 (fun k => k = w.heap.size ∨ k = B10 ∨ k = B12) x1 x2 m1 m2 d1 d2 (newZs split (l.take i)).1) ∧ Hid (ZBox wr w.heap.size B12 (fun k => k = w.heap.size ∨ k = B10 ∨ k = B12) y1 y2 k1 k2 e1 e2 (newZs split (l.take i)).2) ∧ Hid (Below w.heap.size w wr) ∧ Hid (∀ o, wr.cell? ⟨w.heap.size, o, none⟩ = (#[.slice none 0 0, .slice none 0 0, .int .i64 0, .slice none 0 0, .slice none 0 0] : Array Value)[o]?) ∧ Hid (∀ o, wr.frozen? ⟨w.heap.size, o, none⟩ = false)) (fun s57 _ => n - (intOf s57).toNat)
  case atStart => exact ⟨0, _, _, _, _, _, _, _, _, _, _, _, _, Nat.zero_le _, rfl, HZ6, HY, HB6, K8d, F8d⟩
  case round =>
    obtain ⟨i, x1, x2, m1, m2, d1, d2, y1, y2, k1, k2, e1, e2, hi, rfl, HZr, HYr, HBr, K8r, F8r⟩ := hrel
    clear HZ6 HY HB6 K8d F8d hsz6
    by_cases hlt : i < n
    · have hil : i < l.length := by omega
      have hlt2 : (i : Int) < n := by omega
      obtain ⟨b, off, ha, hb, hc⟩ := row_elem encRg_length (by decide) (HRW.out.below HBr.out) hil
      obtain rfl := ha
      have NS := Hid.mk (newInv_at HL.out h1 h2 hil)
      have HIV := Hid.mk (newInv_take HL.out h1 h2 i (Nat.le_of_lt hil))
      have HNX := Hid.mk (newZs_take split l i hil)
      obtain ⟨r, hrr⟩ : ∃ r, l[i] = r := ⟨_, rfl⟩
      rw [hrr] at hc NS HNX
      have c0 := hc 0 _ rfl
      have c1 := hc 1 _ rfl
      simp only [vI, Nat.add_zero] at c0 c1
      rw [NS.out.f] at c0
      rw [NS.out.s] at c1
      have hfs := NS.out.fs
      have hs1 := NS.out.s1
      have hlo := NS.out.lo
      have hloe : r.lo split = min (r.f.toNat + r.s.toNat) split - r.f.toNat := rfl
      have HLOE := Hid.mk hloe
      clear hc hloe hrr
      generalize newZs split (l.take i) = z at *
      obtain ⟨F, hF⟩ : ∃ F, r.f.toNat = F := ⟨_, rfl⟩
      obtain ⟨S, hS⟩ : ∃ S, r.s.toNat = S := ⟨_, rfl⟩
      rw [hF] at c0 hfs HLOE
      rw [hS] at c1 hfs hs1 hlo HLOE
      have HF := Hid.mk hF
      have HSS := Hid.mk hS
      clear hF hS
      go_upto_region 11 with fail
      obtain ⟨M, hM⟩ : ∃ M : Int, (if (split : Int) < (F : Int) + (S : Int) then (split : Int) else (F : Int) + (S : Int)) = M := ⟨_, rfl⟩
      have hL : (if (F : Int) < M then M - (F : Int) else 0) = ((r.lo split : Nat) : Int) := by
        rw [HLOE.out, ← hM]
        by_cases q1 : (split : Int) < (F : Int) + (S : Int)
        · rw [if_pos q1]
          by_cases q2 : (F : Int) < (split : Int)
          · rw [if_pos q2]; omega
          · rw [if_neg q2]; omega
        · rw [if_neg q1]
          rw [if_pos (by omega)]
          omega
      rw [hM, hL]
      clear hL hM
      have hbr := below_alloc wr (.cells #[.int .i64 (F : Int), .int .i64 (S : Int)] 24)
      have HZ1 := Hid.mk (HZr.out.below hbr)
      have HY1 := Hid.mk (HYr.out.below hbr)
      have HB1 := Hid.mk (Below.step HBr.out hbr)
      have hwr : w.heap.size < wr.heap.size := HZr.out.xs _ (.inl rfl)
      have K81 := Hid.mk (box_step K8r.out hwr hbr)
      have F81 := Hid.mk (frz_step F8r.out hwr hbr)
      have KR : Hid (∀ o, (wr.alloc (.cells #[.int .i64 (F : Int), .int .i64 (S : Int)] 24)).cell? ⟨wr.heap.size, o, none⟩ = (#[.int .i64 (F : Int), .int .i64 (S : Int)] : Array Value)[o]?) := box_new wr _ _
      have hszR : wr.heap.size < (wr.alloc (.cells #[.int .i64 (F : Int), .int .i64 (S : Int)] 24)).heap.size := by simp
      have h10R : B10 < wr.heap.size ∧ B12 < wr.heap.size := ⟨HZr.out.lt, HYr.out.lt⟩
      clear HZr HYr HBr K8r F8r c0 c1 hb hbr
      obtain ⟨BR, hBR⟩ : ∃ BR, wr.heap.size = BR := ⟨_, rfl⟩
      rw [hBR] at KR hszR h10R hwr ⊢
      generalize wr.alloc (.cells #[.int .i64 (F : Int), .int .i64 (S : Int)] 24) = w7 at *
      obtain ⟨L, hLL⟩ : ∃ L, r.lo split = L := ⟨_, rfl⟩
      have HLL := Hid.mk hLL
      rw [hLL] at hlo ⊢
      have hle := NS.out.le
      have hhi := NS.out.hi
      have hd0 := NS.out.d0
      have hd1 := NS.out.d1
      have hnx := NS.out.next
      unfold newStep at hnx
      rw [HF.out, hLL] at hle hhi hd0 hd1 hnx
      rw [HSS.out] at hhi hd1 hnx
      have HD0 := Hid.mk hd0
      have HD1 := Hid.mk hd1
      have HNXT := Hid.mk hnx
      have HSTEP : Hid (newZs split (l.take (i + 1)) = (giveTo z.1 F L, giveTo z.2 (F + L) (S - L))) := by
        unfold Hid
        rw [HNX.out]
        unfold newStep
        rw [HF.out, HSS.out, hLL]
      clear hd0 hd1 hnx hLL HNX NS HLOE HLL
      go_upto_if 73 with fail
      go_cut [] (fun wx => ∃ (x1 x2 : Option Addr) (m1 m2 d1 d2 : Nat), Hid (ZBox wx w.heap.size B10 (fun k => k = w.heap.size ∨ k = B10 ∨ k = B12) x1 x2 m1 m2 d1 d2 (giveTo z.1 F L)) ∧ Hid (ZBox wx w.heap.size B12 (fun k => k = w.heap.size ∨ k = B10 ∨ k = B12) y1 y2 k1 k2 e1 e2 z.2) ∧ Hid (Below w.heap.size w wx) ∧ Hid (∀ o, wx.cell? ⟨w.heap.size, o, none⟩ = (#[.slice none 0 0, .slice none 0 0, .int .i64 0, .slice none 0 0, .slice none 0 0] : Array Value)[o]?) ∧ Hid (∀ o, wx.frozen? ⟨w.heap.size, o, none⟩ = false) ∧ Hid (∀ o, wx.cell? ⟨BR, o, none⟩ = (#[.int .i64 (F : Int), .int .i64 (S : Int)] : Array Value)[o]?) ∧ BR < wx.heap.size)
      case first =>
        by_cases hL0 : 0 < L
        · have hL0i : (0 : Int) < L := by omega
          have hLle := hle hL0
          obtain ⟨q0, q1, q2, q3⟩ := HZ1.out.cells
          have u0 := KR.out 0
          simp only [List.getElem?_toArray, List.getElem?_cons_zero] at u0
          go_wp2_with fail
          refine (give_gen x1 x2 m1 m2 d1 d2 z.1 F L w7 HZ1.out.own.at HIV.out.o0 HD0.out (by rw [HIV.out.f0]; exact Nat.zero_le _) (by rw [HIV.out.e0]; exact hLle)).mono ?_
          rintro ev w8 ⟨b1, b2, m8, e8, e9, rfl, ho8, hb8⟩
          have HGF := (giveG_ok HIV.out.o0 HD0.out (by rw [HIV.out.f0]; exact Nat.zero_le _) (by rw [HIV.out.e0]; exact hLle) L (Nat.le_refl _))
          have HZ2 := Hid.mk (HZ1.out.put (.inr (.inl rfl)) (by omega) hb8 ho8)
          rw [HGF.2.1, HGF.2.2.1] at HZ2
          have hne : B12 ≠ B10 := by omega
          have HY2 := Hid.mk (((HY1.out.below hb8).far4 (g := B10) (.inr (.inl rfl)) hne (.int .i64 z.1.f) (.int .i64 z.1.e) (.slice b1 m8 e8) (.slice b2 m2 e9)))
          have hB := HZ1.out.below hb8
          obtain ⟨p0, p1, p2, p3⟩ := hB.cells
          have g0 := hB.fz 0
          have g1 := hB.fz 1
          have g2 := hB.fz 2
          have g3 := hB.fz 3
          have hB10 := hB.lt
          have hwne : w.heap.size ≠ B10 := by omega
          have hRne : BR ≠ B10 := by omega
          have K82 := Hid.mk (box_set_other (box_set_other (box_set_other (box_set_other (box_step K81.out (by omega) hb8) hwne 0 (.int .i64 z.1.f)) hwne 1 (.int .i64 z.1.e)) hwne 2 (.slice b1 m8 e8)) hwne 3 (.slice b2 m2 e9))
          have F82 := Hid.mk (frz_set (frz_set (frz_set (frz_set (frz_step F81.out (by omega) hb8) ⟨B10, 0, none⟩ (.int .i64 z.1.f)) ⟨B10, 1, none⟩ (.int .i64 z.1.e)) ⟨B10, 2, none⟩ (.slice b1 m8 e8)) ⟨B10, 3, none⟩ (.slice b2 m2 e9))
          have KR2 := Hid.mk (box_set_other (box_set_other (box_set_other (box_set_other (box_step KR.out hszR hb8) hRne 0 (.int .i64 z.1.f)) hRne 1 (.int .i64 z.1.e)) hRne 2 (.slice b1 m8 e8)) hRne 3 (.slice b2 m2 e9))
          have hle10 : w.heap.size ≤ B10 := Nat.le_of_lt hwB
          have HB2 := Hid.mk (Below.setCell (Below.setCell (Below.setCell (Below.setCell (Below.step HB1.out hb8) (show w.heap.size ≤ (⟨B10, 0, none⟩ : Addr).block from hle10) (.int .i64 z.1.f)) (show w.heap.size ≤ (⟨B10, 1, none⟩ : Addr).block from hle10) (.int .i64 z.1.e)) (show w.heap.size ≤ (⟨B10, 2, none⟩ : Addr).block from hle10) (.slice b1 m8 e8)) (show w.heap.size ≤ (⟨B10, 3, none⟩ : Addr).block from hle10) (.slice b2 m2 e9))
          have hszR2 : BR < ((((w8.setCell ⟨B10, 0, none⟩ (.int .i64 z.1.f)).setCell ⟨B10, 1, none⟩ (.int .i64 z.1.e)).setCell ⟨B10, 2, none⟩ (.slice b1 m8 e8)).setCell ⟨B10, 3, none⟩ (.slice b2 m2 e9)).heap.size := by have := hb8.size; simp; omega
          clear q0 q1 q2 q3 u0 hB ho8 hb8 HZ1 HY1 HB1 K81 F81 KR HGF
          go_wp2_with fail
          go_meet
          case rel => exact ⟨b1, b2, m8, m2, e8, e9, HZ2, HY2, HB2, K82, F82, KR2, hszR2⟩
        · have hL0i : ¬ (0 : Int) < L := by omega
          obtain rfl : L = 0 := by omega
          go_wp2_with fail
          go_meet
          case rel => exact ⟨x1, x2, m1, m2, d1, d2, HZ1, HY1, HB1, K81, F81, KR, hszR⟩
      case rest =>
        obtain ⟨x1, x2, m1, m2, d1, d2, HZ1, HY1, HB1, K81, F81, KR, hszR⟩ := hcut
        have u1 := KR.out 1
        simp only [List.getElem?_toArray, List.getElem?_cons_zero, List.getElem?_cons_succ] at u1
        go_upto_if 85 with fail
        clear hle
        by_cases hSL : L < S
        · have hSLi : (L : Int) < S := by omega
          have hSL2 := hhi hSL
          obtain ⟨q0, q1, q2, q3⟩ := HY1.out.cells
          have u0 := KR.out 0
          simp only [List.getElem?_toArray, List.getElem?_cons_zero] at u0
          have hgive := give_gen y1 y2 k1 k2 e1 e2 z.2 (F + L) (S - L) wc HY1.out.own.at HIV.out.o1 HD1.out (by rw [HIV.out.f1]; exact hSL2) (by rw [HIV.out.e1]; omega)
          rw [show ((F + L : Nat) : Int) = (F : Int) + L from by omega, show ((S - L : Nat) : Int) = (S : Int) - L from by omega] at hgive
          go_wp2_with fail
          refine hgive.mono ?_
          rintro ev w9 ⟨b1, b2, m8, e8, e9, rfl, ho8, hb8⟩
          have ho8 : ZOwn w9 wc.heap.size b1 b2 m8 k2 e8 e9 (giveTo z.2 (F + L) (S - L)) := ho8
          have HGF := (giveG_ok HIV.out.o1 HD1.out (by rw [HIV.out.f1]; exact hSL2) (by rw [HIV.out.e1]; omega) (S - L) (Nat.le_refl _))
          have HY2 := Hid.mk (HY1.out.put (.inr (.inr rfl)) (by omega) hb8 ho8)
          rw [HGF.2.1, HGF.2.2.1] at HY2
          have hne : B10 ≠ B12 := by omega
          have HZ2 := Hid.mk (((HZ1.out.below hb8).far4 (g := B12) (.inr (.inr rfl)) hne (.int .i64 z.2.f) (.int .i64 z.2.e) (.slice b1 m8 e8) (.slice b2 k2 e9)))
          have hB := HY1.out.below hb8
          obtain ⟨p0, p1, p2, p3⟩ := hB.cells
          have g0 := hB.fz 0
          have g1 := hB.fz 1
          have g2 := hB.fz 2
          have g3 := hB.fz 3
          have hB12 := hB.lt
          have hwne : w.heap.size ≠ B12 := by omega
          have hRne : BR ≠ B12 := by omega
          have K82 := Hid.mk (box_set_other (box_set_other (box_set_other (box_set_other (box_step K81.out (by omega) hb8) hwne 0 (.int .i64 z.2.f)) hwne 1 (.int .i64 z.2.e)) hwne 2 (.slice b1 m8 e8)) hwne 3 (.slice b2 k2 e9))
          have F82 := Hid.mk (frz_set (frz_set (frz_set (frz_set (frz_step F81.out (by omega) hb8) ⟨B12, 0, none⟩ (.int .i64 z.2.f)) ⟨B12, 1, none⟩ (.int .i64 z.2.e)) ⟨B12, 2, none⟩ (.slice b1 m8 e8)) ⟨B12, 3, none⟩ (.slice b2 k2 e9))
          have KR2 := Hid.mk (box_set_other (box_set_other (box_set_other (box_set_other (box_step KR.out hszR hb8) hRne 0 (.int .i64 z.2.f)) hRne 1 (.int .i64 z.2.e)) hRne 2 (.slice b1 m8 e8)) hRne 3 (.slice b2 k2 e9))
          have hle10 : w.heap.size ≤ B12 := Nat.le_of_lt (Nat.lt_trans hwB h1012)
          have HB2 := Hid.mk (Below.setCell (Below.setCell (Below.setCell (Below.setCell (Below.step HB1.out hb8) (show w.heap.size ≤ (⟨B12, 0, none⟩ : Addr).block from hle10) (.int .i64 z.2.f)) (show w.heap.size ≤ (⟨B12, 1, none⟩ : Addr).block from hle10) (.int .i64 z.2.e)) (show w.heap.size ≤ (⟨B12, 2, none⟩ : Addr).block from hle10) (.slice b1 m8 e8)) (show w.heap.size ≤ (⟨B12, 3, none⟩ : Addr).block from hle10) (.slice b2 k2 e9))
          have hszR2 : BR < ((((w9.setCell ⟨B12, 0, none⟩ (.int .i64 z.2.f)).setCell ⟨B12, 1, none⟩ (.int .i64 z.2.e)).setCell ⟨B12, 2, none⟩ (.slice b1 m8 e8)).setCell ⟨B12, 3, none⟩ (.slice b2 k2 e9)).heap.size := by have := hb8.size; simp; omega
          clear q0 q1 q2 q3 u0 hB ho8 hb8 HY1 HZ1 HB1 K81 F81 KR HGF hgive
          go_wp2_with fail
          go_roundw
          case rel => first | exact ⟨i + 1, x1, x2, m1, m2, d1, d2, b1, b2, m8, k2, e8, e9, by omega, by go_num, by rw [HSTEP.out]; exact HZ2, by rw [HSTEP.out]; exact HY2, HB2, K82, F82⟩ | ((repeat apply Exists.intro); exact ⟨⟨i + 1, x1, x2, m1, m2, d1, d2, b1, b2, m8, k2, e8, e9, by omega, by go_num, by rw [HSTEP.out]; exact HZ2, by rw [HSTEP.out]; exact HY2, HB2, K82, F82⟩, rfl⟩)
          case measure => simp [intOf]; omega
        · have hSLi : ¬ (L : Int) < S := by omega
          have hSL0 : S - L = 0 := by omega
          go_wp2_with fail
          go_roundw
          case rel => first | exact ⟨i + 1, x1, x2, m1, m2, d1, d2, y1, y2, k1, k2, e1, e2, by omega, by go_num, by rw [HSTEP.out]; exact HZ1, by rw [HSTEP.out]; rw [hSL0]; exact HY1, HB1, K81, F81⟩ | ((repeat apply Exists.intro); exact ⟨⟨i + 1, x1, x2, m1, m2, d1, d2, y1, y2, k1, k2, e1, e2, by omega, by go_num, by rw [HSTEP.out]; exact HZ1, by rw [HSTEP.out]; rw [hSL0]; exact HY1, HB1, K81, F81⟩, rfl⟩)
          case measure => simp [intOf]; omega
    · obtain rfl : i = n := by omega
      have e : l.take i = l := List.take_of_length_le (by omega)
      rw [e] at HZr HYr
      obtain ⟨p0, p1, p2, p3⟩ := HZr.out.cells
      obtain ⟨q0, q1, q2, q3⟩ := HYr.out.cells
      have k80 := K8r.out 0
      have k81 := K8r.out 1
      have k82 := K8r.out 2
      have k83 := K8r.out 3
      have k84 := K8r.out 4
      have f80 := F8r.out 0
      have f81 := F8r.out 1
      have f82 := F8r.out 2
      have f83 := F8r.out 3
      have f84 := F8r.out 4
      simp only [List.getElem?_toArray, List.getElem?_cons_zero, List.getElem?_cons_succ] at k80 k81 k82 k83 k84
      have hB10 := HZr.out.lt
      have hB12 := HYr.out.lt
      have hwr : w.heap.size < wr.heap.size := HZr.out.xs _ (.inl rfl)
      have hne10 : B10 ≠ w.heap.size := by omega
      have hne12 : B12 ≠ w.heap.size := by omega
      obtain ⟨V0, hV0⟩ : ∃ V : Value, V = .slice (some ⟨wr.heap.size, 0, none⟩) 2 2 := ⟨_, rfl⟩
      obtain ⟨V1, hV1⟩ : ∃ V : Value, V = .slice (some ⟨wr.heap.size + 1, 0, none⟩) 2 2 := ⟨_, rfl⟩
      have HZ5 := Hid.mk (((((HZr.out.far (.inl rfl) hne10 0 V0).far (.inl rfl) hne10 1 V1).far (.inl rfl) hne10 2 (.int .i64 (cpus : Int))).far (.inl rfl) hne10 3 (.slice none 0 0)).far (.inl rfl) hne10 4 (.slice none 0 0))
      have HY5 := Hid.mk (((((HYr.out.far (.inl rfl) hne12 0 V0).far (.inl rfl) hne12 1 V1).far (.inl rfl) hne12 2 (.int .i64 (cpus : Int))).far (.inl rfl) hne12 3 (.slice none 0 0)).far (.inl rfl) hne12 4 (.slice none 0 0))
      have K5 := Hid.mk (box_set (box_set (box_set (box_set (box_set K8r.out 0 V0) 1 V1) 2 (.int .i64 (cpus : Int))) 3 (.slice none 0 0)) 4 (.slice none 0 0))
      have HB5 := Hid.mk (Below.setCell (Below.setCell (Below.setCell (Below.setCell (Below.setCell HBr.out (show w.heap.size ≤ (⟨w.heap.size, 0, none⟩ : Addr).block from Nat.le_refl _) V0) (show w.heap.size ≤ (⟨w.heap.size, 1, none⟩ : Addr).block from Nat.le_refl _) V1) (show w.heap.size ≤ (⟨w.heap.size, 2, none⟩ : Addr).block from Nat.le_refl _) (.int .i64 (cpus : Int))) (show w.heap.size ≤ (⟨w.heap.size, 3, none⟩ : Addr).block from Nat.le_refl _) (.slice none 0 0)) (show w.heap.size ≤ (⟨w.heap.size, 4, none⟩ : Addr).block from Nat.le_refl _) (.slice none 0 0))
      have HSZ : Hid ((((((wr.setCell ⟨w.heap.size, 0, none⟩ V0).setCell ⟨w.heap.size, 1, none⟩ V1).setCell ⟨w.heap.size, 2, none⟩ (.int .i64 (cpus : Int))).setCell ⟨w.heap.size, 3, none⟩ (.slice none 0 0)).setCell ⟨w.heap.size, 4, none⟩ (.slice none 0 0)).heap.size = wr.heap.size) := by simp [Hid]
      have HV0 := Hid.mk hV0
      have HV1 := Hid.mk hV1
      clear hV0 hV1 HZr HYr K8r F8r HBr
      go_wp2
      rw [← HV0.out, ← HV1.out]
      generalize ((((wr.setCell ⟨w.heap.size, 0, none⟩ V0).setCell ⟨w.heap.size, 1, none⟩ V1).setCell ⟨w.heap.size, 2, none⟩ (.int .i64 (cpus : Int))).setCell ⟨w.heap.size, 3, none⟩ (.slice none 0 0)).setCell ⟨w.heap.size, 4, none⟩ (.slice none 0 0) = W5 at *
      have hs := HSZ.out
      have hb1 := below_alloc W5 (.cells (flat encZc [⟨(newZs split l).1, x1, x2, m1, m2, d1, d2⟩, ⟨(newZs split l).2, y1, y2, k1, k2, e1, e2⟩]).toArray 110)
      have hb2 := below_alloc (W5.alloc (.cells (flat encZc [⟨(newZs split l).1, x1, x2, m1, m2, d1, d2⟩, ⟨(newZs split l).2, y1, y2, k1, k2, e1, e2⟩]).toArray 110)) (.cells (flat encT [least, least]).toArray 3)
      have r1 : ((W5.alloc (.cells (flat encZc [⟨(newZs split l).1, x1, x2, m1, m2, d1, d2⟩, ⟨(newZs split l).2, y1, y2, k1, k2, e1, e2⟩]).toArray 110)).alloc (.cells (flat encT [least, least]).toArray 3)).ownsRow 0 110 4 (.slice (some ⟨wr.heap.size, 0, none⟩) 2 2) 2 (flat encZc [⟨(newZs split l).1, x1, x2, m1, m2, d1, d2⟩, ⟨(newZs split l).2, y1, y2, k1, k2, e1, e2⟩]) := by
        rw [← hs]
        exact own_below (own_new W5 (Nat.zero_le _) rfl (by decide)) hb2 (Nat.le_refl _)
      have r2 : ((W5.alloc (.cells (flat encZc [⟨(newZs split l).1, x1, x2, m1, m2, d1, d2⟩, ⟨(newZs split l).2, y1, y2, k1, k2, e1, e2⟩]).toArray 110)).alloc (.cells (flat encT [least, least]).toArray 3)).ownsRow 0 3 1 (.slice (some ⟨wr.heap.size + 1, 0, none⟩) 2 2) 2 (flat encT [least, least]) := by
        rw [show wr.heap.size + 1 = (W5.alloc (.cells (flat encZc [⟨(newZs split l).1, x1, x2, m1, m2, d1, d2⟩, ⟨(newZs split l).2, y1, y2, k1, k2, e1, e2⟩]).toArray 110)).heap.size by simp [hs]]
        exact own_new _ (Nat.zero_le _) rfl (by decide)
      have t0 := (HZ5.out.below hb1).below hb2
      have t1 := (HY5.out.below hb1).below hb2
      have t0l := HZ5.out.own
      have t1l := HY5.out.own
      have HRX := newH_hr r1 r2 t0.own t1.own (G := w.heap.size) (N := wr.heap.size) t0l t1l hs (HZ5.out.ne _ (.inl rfl)) (HY5.out.ne _ (.inl rfl)) hwr (by have h9 := hb1.size; have h8 := hb2.size; omega) (newH l split least cpus) rfl rfl rfl rfl rfl rfl 
      have KX := box_step (box_step K5.out (by omega) hb1) (by have := hb1.size; omega) hb2
      have HBX := Below.step (Below.step HB5.out hb1) hb2
      have hwx : ∃ wx, wx = (W5.alloc (.cells (flat encZc [⟨(newZs split l).1, x1, x2, m1, m2, d1, d2⟩, ⟨(newZs split l).2, y1, y2, k1, k2, e1, e2⟩]).toArray 110)).alloc (.cells (flat encT [least, least]).toArray 3) := ⟨_, rfl⟩
      obtain ⟨wx, hwx⟩ := hwx
      rw [← hwx] at HRX KX HBX
      change wx = (W5.alloc (.cells #[.int .i64 ((newZs split l).1.f : Int), .int .i64 ((newZs split l).1.e : Int), .slice x1 m1 d1, .slice x2 m2 d2, .int .i64 ((newZs split l).2.f : Int), .int .i64 ((newZs split l).2.e : Int), .slice y1 k1 e1, .slice y2 k2 e2] 110)).alloc (.cells #[.int .i64 (least : Int), .int .i64 (least : Int)] 3) at hwx
      rw [← hwx]
      change ∀ o, wx.cell? ⟨w.heap.size, o, none⟩ = (#[V0, V1, .int .i64 (cpus : Int), .slice none 0 0, .slice none 0 0] : Array Value)[o]? at KX
      clear hwx hb1 hb2
      refine bodyPost_ret (v := .tuple #[.agg #[V0, V1, .int .i64 (cpus : Int), .slice none 0 0, .slice none 0 0], .int .i64 0]) (by simp [results, Tryz.results20, go_sem, KX]) rfl ⟨⟨some ⟨wr.heap.size, 0, none⟩, 2, some ⟨wr.heap.size + 1, 0, none⟩, 2, none, 0, none, 0, ⟨(newZs split l).1, x1, x2, m1, m2, d1, d2⟩, ⟨(newZs split l).2, y1, y2, k1, k2, e1, e2⟩, []⟩, ?_, HRX, HBX⟩
      rw [HV0.out, HV1.out]
      rfl
end Go.Proofs.YtkcaheebaicinaaGreatDoor
