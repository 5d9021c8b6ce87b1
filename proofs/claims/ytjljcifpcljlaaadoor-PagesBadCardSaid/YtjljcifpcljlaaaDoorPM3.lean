/- Blk19, Zn4, Cnt, Hp1, Hp2, Hp3, Hp4, Hp5, Hp6, Owns, Pp1, Safe: texts of this claim, joined. -/
import Derived.Test.YtjljcifpcljlaaaDoorPM1
import Derived.Test.YtjljcifpcljlaaaDoorPM2
import Derived.Deep.RegionHeld3
/- Contract of package buddy: Take. -/
namespace Go.Proofs.YtjljcifpcljlaaaDoor
open Go.RowKit
set_option linter.unusedVariables false

theorem idx2 (x y : Value) (W : World) (hx : x.oneCell' = true) (hy : y.oneCell' = true) : (Sem.run Tryd.prog (Instr.index 128 (.agg #[x, y]) (.int .i64 0)) W = .ok x W) ∧ (Sem.run Tryd.prog (Instr.index 128 (.agg #[x, y]) (.int .i64 1)) W = .ok y W) := by
  obtain ⟨i0, hi, hz, hsize, hby⟩ := info_parts info_int
  constructor <;> simp [Instr.index, run_underlying Tryd.underlying128, sizeOf, typeInfo, hi, hsize, part, go_sem]

/-- what the search has found: nothing yet, or an index in the zone as it is by then -/
def Sought (z : Zn) (order t : Nat) (r : Option Nat) (y : Zn) (rest : Option Nat) : Prop :=
  (r = none ∧ y = z ∧ findUp z.l t (5 - order) order = none ∧ findDown z.l t order 5 = rest) ∨
  (∃ i b, r = some i ∧ z.take order t = y.cut i order ∧ y.ok ∧ y.f = z.f ∧ y.e = z.e ∧ y.l[i]? = some b ∧ order ≤ b.o ∧ y.y.length = z.y.length ∧ y.l.length = z.l.length)

theorem sought_up {z : Zn} (hz : z.ok) {order t i : Nat} (h : findUp z.l t (5 - order) order = some i) (rest : Option Nat) : Sought z order t (some i) z rest := by
  obtain ⟨b, h1, h2, _⟩ := findUp_some h
  exact .inr ⟨i, b, rfl, by unfold Zn.take; rw [h], hz, rfl, rfl, h1, h2, rfl, rfl⟩
theorem sought_down {z : Zn} (hz : z.ok) {order t i : Nat} (ht : t < 3) (h : findUp z.l t (5 - order) order = none) (hd : findDown z.l t order 5 = some i) (hi : i < z.l.length) (rest : Option Nat) : Sought z order t (some i) (z.steal z.l[i] t) rest := by
  obtain ⟨b, h1, h2⟩ := findDown_some hd
  have hb : z.l[i] = b := by
    have := List.getElem?_eq_getElem hi
    rw [h1] at this
    exact (Option.some.inj this).symm
  obtain ⟨s1, s2, s3, s4, s5⟩ := Zn.steal_ok hz (b := z.l[i]) ht
  obtain ⟨y, hy, hya, hyo⟩ := s5 i b h1
  have hlen : (z.steal z.l[i] t).y.length = z.y.length ∧ (z.steal z.l[i] t).l.length = z.l.length := by
    unfold Zn.steal
    split
    · exact ⟨rfl, rfl⟩
    · exact ⟨setT_length _ _ _ _ _, by simp⟩
  refine .inr ⟨i, y, rfl, ?_, s1, s3, s4, hy, by omega, hlen.1, hlen.2⟩
  unfold Zn.take
  rw [h, hd]
  simp only [h1, hb]

set_option maxHeartbeats 4000000 in
set_option maxRecDepth 100000 in
theorem take_ok (a1 a2 : Option Addr) (n1 n2 c1 c2 : Nat) (z : Zn) (order t : Nat) (w : World) (hat : ZAt w a1 a2 n1 n2 z) (hz : z.ok) (hor : order ≤ 4) (ht : t < 3) (hoth : Oth w) :
    Calls Tryd.prog 76 #[.agg #[.int .i64 z.f, .int .i64 z.e, .slice a1 n1 c1, .slice a2 n2 c2], .int .i64 order, .int .i64 t] w fun ev w' =>
      (z.take order t = none ∧ ev = .returned (.tuple #[.agg #[.int .i64 0, .int .i64 0, .slice none 0 0, .slice none 0 0], .int .i64 0, .int .i64 6]) ∧ Below w.heap.size w w') ∨
      (∃ z' at_ a1' a2' n1' c1' c2', z.take order t = some (z', at_) ∧ ev = .returned (.tuple #[.agg #[.int .i64 z.f, .int .i64 z.e, .slice a1' n1' c1', .slice a2' n2 c2'], .int .i64 (at_ : Nat), .int .i64 0]) ∧ ZOwn w' w.heap.size a1' a2' n1' n2 c1' c2' z' ∧ Below w.heap.size w w') := by
  have hlen : z.l.length ≤ 256 := Nat.le_trans (OkL.length_le hz.2 (fun b hb => (hz.2.fit b hb).1.2.2.1)) hz.1.e2
  have hee := hz.1.e2
  have l1 := hat.l1
  have l2 := hat.l2
  have hy32 : z.y.length ≤ 32 := by rw [hz.1.len]; omega
  obtain ⟨K3, K6, F3, F6, hsz, hbw⟩ := boxes2 w #[.int .i64 (z.f : Int), .int .i64 (z.e : Int), .slice a1 n1 c1, .slice a2 n2 c2] 55 #[.int .i64 0, .int .i64 0, .slice none 0 0, .slice none 0 0] 55
  have hat0 := hat.below hbw
  have d1 : decide ((4 : Int) < order) = false := decide_eq_false (by omega)
  have d2 : decide ((3 : Int) ≤ t) = false := decide_eq_false (by omega)
  have d3 : decide (4 < order) = false := decide_eq_false (by omega)
  have d4 : decide (3 ≤ t) = false := decide_eq_false (by omega)
  have HOT := Hid.mk hoth
  clear hat hoth
  go_enter Tryd.func76, Tryd.ntmps76
  go_wp2_with fail
  generalize (w.alloc (.cells #[.int .i64 (z.f : Int), .int .i64 (z.e : Int), .slice a1 n1 c1, .slice a2 n2 c2] 55)).alloc (.cells #[.int .i64 0, .int .i64 0, .slice none 0 0, .slice none 0 0] 55) = w0 at *
  refine (check_ok _ _ _ _ _ _ z _ hat0 hz).mono ?_
  rintro ev w1 ⟨rfl, hb1⟩
  have K3b := box_step K3 (by omega) hb1
  have K6b := box_step K6 (by omega) hb1
  have F3b := frz_step F3 (by omega) hb1
  have F6b := frz_step F6 (by omega) hb1
  have hat1 := hat0.below hb1
  have hbw1 := Below.step hbw hb1
  have hB : w.heap.size + 2 ≤ w1.heap.size := by have := hb1.size; omega
  clear K3 K6 F3 F6 hb1 hat0 hbw hsz
  go_wp2_with fail
  refine (copy_ok _ _ _ _ _ _ z.f z.e z _ hat1 (by omega) (by omega)).mono ?_
  rintro ev w5 ⟨a3, a4, c3, c4, rfl, hown, hb5⟩
  have K3e := box_step K3b (by omega) hb5
  have K6e := box_step K6b (by omega) hb5
  have F3e := frz_step F3b (by omega) hb5
  have F6e := frz_step F6b (by omega) hb5
  have hbw5 := Below.step hbw1 hb5
  have hnn := (hown.ne (g := w.heap.size) (.inl (by omega)))
  have I1 : GInv w ((((w5.setCell ⟨w.heap.size, 0, none⟩ (.int .i64 z.f)).setCell ⟨w.heap.size, 1, none⟩ (.int .i64 z.e)).setCell ⟨w.heap.size, 2, none⟩ (.slice a3 n1 c3)).setCell ⟨w.heap.size, 3, none⟩ (.slice a4 n2 c4)) a3 a4 n1 n2 c3 c4 z := by
    have h5 := hb5.size
    exact ⟨box_set (box_set (box_set (box_set K3e 0 _) 1 _) 2 _) 3 _, frz_set (frz_set (frz_set (frz_set F3e _ _) _ _) _ _) _ _, box_set_other (box_set_other (box_set_other (box_set_other K6e (by omega) _ _) (by omega) _ _) (by omega) _ _) (by omega) _ _, frz_set (frz_set (frz_set (frz_set F6e _ _) _ _) _ _) _ _, (((((hown.base hB).set hnn _ _).set hnn _ _).set hnn _ _).set hnn _ _), by simp only [World.size_setCell]; omega, Below.setCell (Below.setCell (Below.setCell (Below.setCell hbw5 (by simp only; omega) _) (by simp only; omega) _) (by simp only; omega) _) (by simp only; omega) _⟩
  have HI := Hid.mk I1
  clear I1 K6e F6e hown hbw5 K3b K6b F3b F6b hat1 hbw1 hb5 hnn d1 d2 d3 d4
  go_wp2
  clear K3e F3e
  generalize (((w5.setCell ⟨w.heap.size, 0, none⟩ (.int .i64 z.f)).setCell ⟨w.heap.size, 1, none⟩ (.int .i64 z.e)).setCell ⟨w.heap.size, 2, none⟩ (.slice a3 n1 c3)).setCell ⟨w.heap.size, 3, none⟩ (.slice a4 n2 c4) = w6 at *
  go_loopw [10, 11] (fun s10 s11 wr => ∃ (r : Option Nat) (o : Nat), s10 = .int .i64 (encO r) ∧ s11 = .int .i64 (o : Int) ∧ order ≤ o ∧ o ≤ 5 ∧ Hid ((r = none ∧ findUp z.l t (5 - order) order = findUp z.l t (5 - o) o) ∨ ∃ i, r = some i ∧ findUp z.l t (5 - order) order = some i) ∧ Hid (GInv w wr a3 a4 n1 n2 c3 c4 z)) (fun _ s11 _ => 6 - (intOf s11).toNat)
  case atStart => exact ⟨none, order, rfl, rfl, Nat.le_refl _, by omega, .inl ⟨rfl, rfl⟩, HI⟩
  case round =>
    obtain ⟨r, o, rfl, rfl, ho1, ho2, HR, HK⟩ := hrel
    clear HI
    cases r with
    | none =>
      by_cases ho4 : o ≤ 4
      · have d1 : decide ((o : Int) ≤ 4) = true := decide_eq_true (by omega)
        have d2 : decide (o ≤ 4) = true := decide_eq_true (by omega)
        have k30 := HK.out.k3 0
        have k31 := HK.out.k3 1
        have k32 := HK.out.k3 2
        have k33 := HK.out.k3 3
        have hHi := HK.out.hi
        simp only [List.getElem?_toArray, List.getElem?_cons_zero, List.getElem?_cons_succ] at k30 k31 k32 k33
        simp only [encO]
        go_wp2_with fail
        refine (lowest_ok _ _ _ _ _ _ z.f z.e z o t _ HK.out.own.at (by omega)).mono ?_
        rintro ev w7 ⟨rfl, hb7⟩
        have HK7 := Hid.mk (HK.out.below hb7)
        rw [findI_low]
        have hfu : Hid (findUp z.l t (5 - o) o = match lowI z.l o t with | some i => some i | none => findUp z.l t (5 - (o + 1)) (o + 1)) := by
          unfold Hid
          rw [show 5 - o = (5 - (o + 1)) + 1 by omega]
          rfl
        clear hb7 HK k30 k31 k32 k33
        go_wp2
        go_roundw
        case rel =>
          refine ⟨lowI z.l o t, o + 1, rfl, by go_num, by omega, by omega, ?_, HK7⟩
          rcases HR.out with ⟨_, h⟩ | ⟨i, h, _⟩
          · rw [hfu.out] at h
            cases hc : lowI z.l o t with
            | none => rw [hc] at h; exact .inl ⟨rfl, h⟩
            | some i => rw [hc] at h; exact .inr ⟨i, rfl, h⟩
          · cases h
        case measure => simp [intOf]; omega
      · have d1 : decide ((o : Int) ≤ 4) = false := decide_eq_false (by omega)
        have d2 : decide (o ≤ 4) = false := decide_eq_false (by omega)
        have HS : Hid (Sought z order t none z (findDown z.l t order 5)) := by
          refine .inl ⟨rfl, rfl, ?_, rfl⟩
          rcases HR.out with ⟨_, h⟩ | ⟨i, h, _⟩
          · rw [h, show 5 - o = 0 by omega]; rfl
          · cases h
        simp only [encO]
        clear HR
        have HK0 := HK
        clear HK
        go_wp2
        generalize wr = wq at *
        go_loopw [10, 12] (fun s10 s12 wr => ∃ (r : Option Nat) (y : Zn) (n : Nat), s10 = .int .i64 (encO r) ∧ s12 = .int .i64 ((n : Int) - 1) ∧ n ≤ 5 ∧ Hid (Sought z order t r y (findDown z.l t order n)) ∧ Hid (GInv w wr a3 a4 n1 n2 c3 c4 y)) (fun _ s12 _ => (intOf s12 + 1).toNat)
        case atStart => exact ⟨none, z, 5, rfl, rfl, Nat.le_refl _, HS, HK0⟩
        case round =>
          clear HS HK0
          obtain ⟨r, y, n, rfl, rfl, hn5, HS, HK⟩ := hrel
          cases r with
          | none =>
            obtain rfl : z = y := by
              rcases HS.out with ⟨_, h, _⟩ | ⟨i, b, h, _⟩
              · exact h.symm
              · cases h
            by_cases hno : order + 1 ≤ n
            · obtain ⟨m, rfl⟩ : ∃ m, n = m + 1 := ⟨n - 1, by omega⟩
              have e1 : ((m + 1 : Nat) : Int) - 1 = (m : Int) := by omega
              have d1 : decide ((order : Int) ≤ m) = true := decide_eq_true (by omega)
              have d2 : decide (order ≤ m) = true := decide_eq_true (by omega)
              have hOt := (HOT.out.mono HK.out.bw (Nat.le_refl _)).at ht
              obtain ⟨o1, o2⟩ := hOt
              have hsz0 := (HOT.out.mono HK.out.bw (Nat.le_refl _)).sz
              have hfd : Hid (findDown z.l t order (m + 1) = match lowI z.l m (oth1 t) with | some i => some i | none => match lowI z.l m (oth2 t) with | some i => some i | none => findDown z.l t order m) := by
                unfold Hid
                conv => lhs; unfold findDown
                rw [if_neg (by omega)]
                rfl
              have ht3 : (t : Int) < 3 := by omega
              rw [e1]
              simp only [encO]
              go_wp2
              clear o1 o2
              have hix := fun (W : World) => (idx2 (.int .i64 (oth1 t : Int)) (.int .i64 (oth2 t : Int)) W rfl rfl).1
              have hiy := fun (W : World) => (idx2 (.int .i64 (oth1 t : Int)) (.int .i64 (oth2 t : Int)) W rfl rfl).2
              generalize hO1 : oth1 t = O1 at *
              generalize hO2 : oth2 t = O2 at *
              generalize wr = wr1 at *
              go_loopw [10, 66] (fun s10 s66 wr => ∃ j : Nat, j ≤ 2 ∧ s66 = .int .i64 (j : Int) ∧ s10 = .int .i64 (-1) ∧ Hid (GInv w wr a3 a4 n1 n2 c3 c4 z) ∧ Hid (1 ≤ j → lowI z.l m O1 = none) ∧ Hid (2 ≤ j → lowI z.l m O2 = none)) (fun _ s66 _ => 2 - (intOf s66).toNat)
              case atStart => exact ⟨0, by omega, rfl, rfl, HK, (fun h => by omega), (fun h => by omega)⟩
              case round =>
                obtain ⟨j, hj2, rfl, rfl, HKi, HN1, HN2⟩ := hrel
                clear HK
                obtain rfl | rfl | rfl : j = 0 ∨ j = 1 ∨ j = 2 := by omega
                · have hJ : ((0 : Nat) : Int) < 2 := by omega
                  -- the inner search, at the index 0, for the type O1
                  have k30 := HKi.out.k3 0
                  have k31 := HKi.out.k3 1
                  have k32 := HKi.out.k3 2
                  have k33 := HKi.out.k3 3
                  have hHi := HKi.out.hi
                  simp only [List.getElem?_toArray, List.getElem?_cons_zero, List.getElem?_cons_succ] at k30 k31 k32 k33
                  go_wp2_with fail
                  refine (lowest_ok _ _ _ _ _ _ z.f z.e z m (O1) _ HKi.out.own.at (by omega)).mono ?_
                  rintro ev w7 ⟨rfl, hb7⟩
                  have HK7 := Hid.mk (HKi.out.below hb7)
                  rw [findI_low]
                  have k70 := HK7.out.k3 0
                  have k71 := HK7.out.k3 1
                  have k72 := HK7.out.k3 2
                  have k73 := HK7.out.k3 3
                  have hHi7 := HK7.out.hi
                  simp only [List.getElem?_toArray, List.getElem?_cons_zero, List.getElem?_cons_succ] at k70 k71 k72 k73
                  clear hb7 HKi k30 k31 k32 k33
                  cases hlo : lowI z.l m (O1) with
                  | none =>
                    have HLO := Hid.mk hlo
                    clear hlo
                    simp only [encO]
                    go_wp2
                    go_roundw
                    case rel => exact ⟨0 + 1, by omega, by go_num, rfl, HK7, (fun _ => HLO.out), (fun h => by omega)⟩
                    case measure => simp [intOf]
                  | some i =>
                    have hil : i < z.l.length := by
                      obtain ⟨b, hb, _⟩ := lowI_some hlo
                      exact (List.getElem?_eq_some_iff.1 hb).1
                    have HS2 : Hid (Sought z order t (some i) (z.steal z.l[i] t) (findDown z.l t order m)) := by
                      rcases HS.out with ⟨_, _, hu, hd⟩ | ⟨i', b', hr, _⟩
                      · refine sought_down hz ht hu (hd.trans ?_) hil _
                        rw [hfd.out]
                        rw [hlo]
                      · cases hr
                    have hfe := Zn.steal_ok hz (b := z.l[i]) ht
                    have HFE := Hid.mk hfe
                    clear hlo hfe
                    simp only [encO]
                    go_wp2_with fail
                    refine (steal_ok (w.heap.size + 2) _ _ _ _ _ _ z i t hil _ HK7.out.own hz ht hHi7).mono ?_
                    rintro ev w8 ⟨rfl, hown8, hb8⟩
                    have HK8 := Hid.mk (HK7.out.stolen hown8 hb8 HFE.out.2.2.1 HFE.out.2.2.2.1)
                    clear hown8 hb8 HFE HK7 k70 k71 k72 k73
                    dsimp only
                    go_wp2
                    go_roundw
                    case rel => exact ⟨some i, _, m, rfl, by go_num, by omega, HS2, HK8⟩
                    case measure => simp [intOf]

                · have hJ : ((1 : Nat) : Int) < 2 := by omega
                  -- the inner search, at the index 1, for the type O2
                  have k30 := HKi.out.k3 0
                  have k31 := HKi.out.k3 1
                  have k32 := HKi.out.k3 2
                  have k33 := HKi.out.k3 3
                  have hHi := HKi.out.hi
                  simp only [List.getElem?_toArray, List.getElem?_cons_zero, List.getElem?_cons_succ] at k30 k31 k32 k33
                  go_wp2_with fail
                  refine (lowest_ok _ _ _ _ _ _ z.f z.e z m (O2) _ HKi.out.own.at (by omega)).mono ?_
                  rintro ev w7 ⟨rfl, hb7⟩
                  have HK7 := Hid.mk (HKi.out.below hb7)
                  rw [findI_low]
                  have k70 := HK7.out.k3 0
                  have k71 := HK7.out.k3 1
                  have k72 := HK7.out.k3 2
                  have k73 := HK7.out.k3 3
                  have hHi7 := HK7.out.hi
                  simp only [List.getElem?_toArray, List.getElem?_cons_zero, List.getElem?_cons_succ] at k70 k71 k72 k73
                  clear hb7 HKi k30 k31 k32 k33
                  cases hlo : lowI z.l m (O2) with
                  | none =>
                    have HLO := Hid.mk hlo
                    clear hlo
                    simp only [encO]
                    go_wp2
                    go_roundw
                    case rel => exact ⟨1 + 1, by omega, by go_num, rfl, HK7, (fun _ => HN1.out (by omega)), (fun _ => HLO.out)⟩
                    case measure => simp [intOf]
                  | some i =>
                    have hil : i < z.l.length := by
                      obtain ⟨b, hb, _⟩ := lowI_some hlo
                      exact (List.getElem?_eq_some_iff.1 hb).1
                    have HS2 : Hid (Sought z order t (some i) (z.steal z.l[i] t) (findDown z.l t order m)) := by
                      rcases HS.out with ⟨_, _, hu, hd⟩ | ⟨i', b', hr, _⟩
                      · refine sought_down hz ht hu (hd.trans ?_) hil _
                        rw [hfd.out]
                        rw [HN1.out (by omega), hlo]
                      · cases hr
                    have hfe := Zn.steal_ok hz (b := z.l[i]) ht
                    have HFE := Hid.mk hfe
                    clear hlo hfe
                    simp only [encO]
                    go_wp2_with fail
                    refine (steal_ok (w.heap.size + 2) _ _ _ _ _ _ z i t hil _ HK7.out.own hz ht hHi7).mono ?_
                    rintro ev w8 ⟨rfl, hown8, hb8⟩
                    have HK8 := Hid.mk (HK7.out.stolen hown8 hb8 HFE.out.2.2.1 HFE.out.2.2.2.1)
                    clear hown8 hb8 HFE HK7 k70 k71 k72 k73
                    dsimp only
                    go_wp2
                    go_roundw
                    case rel => exact ⟨some i, _, m, rfl, by go_num, by omega, HS2, HK8⟩
                    case measure => simp [intOf]

                · have HS2 : Hid (Sought z order t none z (findDown z.l t order m)) := by
                    rcases HS.out with ⟨_, _, hu, hd⟩ | ⟨i', b', hr, _⟩
                    · refine .inl ⟨rfl, rfl, hu, hd.trans ?_⟩
                      rw [hfd.out, HN1.out (by omega), HN2.out (by omega)]
                    · cases hr
                  go_wp2
                  go_roundw
                  case rel => exact ⟨none, z, m, rfl, by go_num, by omega, HS2, HKi⟩
                  case measure => simp [intOf]
            · have d1 : decide ((order : Int) ≤ (n : Int) - 1) = false := decide_eq_false (by omega)
              have d5 : ¬ (order : Int) ≤ (n : Int) - 1 := by omega
              have HN : Hid (z.take order t = none) := by
                rcases HS.out with ⟨_, _, hu, hd⟩ | ⟨i', b', hr, _⟩
                · unfold Hid Zn.take
                  rw [hu, hd]
                  have : findDown z.l t order n = none := by
                    cases n with
                    | zero => rfl
                    | succ m => unfold findDown; rw [if_pos (by omega)]
                  rw [this]
                · cases hr
              have x6 := HK.out.k6
              have xf6 := HK.out.f6
              have hHi := HK.out.hi
              simp only [encO]
              go_wp2
              refine bodyPost_ret (v := .tuple #[.agg #[.int .i64 0, .int .i64 0, .slice none 0 0, .slice none 0 0], .int .i64 0, .int .i64 6]) (by simp [results, Tryd.results76, go_sem, x6]) rfl (.inl ⟨HN.out, rfl, ?_⟩)
              exact Below.setCell (Below.setCell (Below.setCell (Below.setCell HK.out.bw (by simp only; omega) _) (by simp only; omega) _) (by simp only; omega) _) (by simp only; omega) _
          | some i =>
            simp only [encO]
            -- the block is found, in the zone y as it is by now
            obtain ⟨b, hib, hcut, hyok, hyf, hye, hyb, hbo, hyl, hll⟩ : ∃ b, z.take order t = y.cut i order ∧ z.take order t = y.cut i order ∧ y.ok ∧ y.f = z.f ∧ y.e = z.e ∧ y.l[i]? = some b ∧ order ≤ b.o ∧ y.y.length = z.y.length ∧ y.l.length = z.l.length := by
              rcases HS.out with ⟨h, _⟩ | ⟨i', b, h, h1, h2, h3, h4, h5, h6, h7, h8⟩
              · cases h
              · obtain rfl : i = i' := by simpa using h
                exact ⟨b, h1, h1, h2, h3, h4, h5, h6, h7, h8⟩
            have HYF := Hid.mk hyf
            have HYE := Hid.mk hye
            clear hyf hye
            obtain ⟨hil, hbi⟩ := List.getElem?_eq_some_iff.1 hyb
            obtain ⟨bb, off, hb1, hbb, hc⟩ := row_elem encBk_length (by decide) HK.out.own.at.r1 hil
            obtain rfl := hb1
            obtain ⟨hc0, hc1, hc2⟩ := encBk_cells hc
            rw [hbi] at hc0 hc1 hc2
            have hbm : b ∈ y.l := by rw [← hbi]; exact List.getElem_mem hil
            have hbf := hyok.2.fit b hbm
            have hapart : ∀ x ∈ y.l.eraseIdx i, apartB b.a b.o x := fun x hx => by
              obtain ⟨j, hj, hne, rfl⟩ := List.mem_eraseIdx_iff_getElem.1 hx
              have := sep_two hyok.2.sep hj hil hne
              rw [hbi] at this
              exact this
            have HCUT : Hid (z.take order t = some ({ y with l := splitDown (y.l.eraseIdx i) b.a b.t order b.o }, b.a)) := by
              unfold Hid
              rw [hcut]
              unfold Zn.cut
              rw [hyb]
            have HOK : Hid (OkL y.f y.e (y.l.eraseIdx i)) := hyok.2.sublist (List.eraseIdx_sublist _ _)
            have HFT : Hid (fitsB y.f y.e b.a b.o) := hbf.1
            have HAP := Hid.mk hapart
            have hl1 := HK.out.own.l1
            have hl2 := HK.out.own.l2
            have hin : (i : Int) < n1 := by omega
            have hin2 : i < n1 := by omega
            have k32 := HK.out.k3 2
            have hHi := HK.out.hi
            simp only [List.getElem?_toArray, List.getElem?_cons_zero, List.getElem?_cons_succ] at k32
            have hwr0 : w.heap.size < wr.heap.size := by omega
            have hbn := below_alloc wr (.cells #[.int .i64 (b.a : Int), .int .i64 (b.o : Int), .int .i64 (b.t : Int)] 40)
            have HQ : Hid (QInv w (wr.alloc (.cells #[.int .i64 (b.a : Int), .int .i64 (b.o : Int), .int .i64 (b.t : Int)] 40)) wr.heap.size (some ⟨bb, off, none⟩) a4 n1 n2 c3 c4 y b.a b.o b.t) :=
              ⟨HK.out.below hbn, box_new wr _ _, box_frz wr _ _, hHi, by simp, HK.out.own.ne (.inr (Nat.le_refl _))⟩
            clear hbi hyb hapart hc hbm hcut hib HS
            go_wp2_with fail
            clear hc0 hc1 hc2 k32 HK hbn
            generalize wr.alloc (.cells #[.int .i64 (b.a : Int), .int .i64 (b.o : Int), .int .i64 (b.t : Int)] 40) = w7 at *
            generalize wr.heap.size = B at *
            refine (delete_bk (w.heap.size + 2) _ _ _ y.l i _ HQ.out.g.own.o1 hin2 (by omega) HQ.out.g.hi).mono ?_
            rintro ev w8 ⟨rfl, hownd, hgd⟩
            have HM := Hid.mk (HQ.out.grown hgd (l' := y.l.eraseIdx i) (by rw [List.length_eraseIdx_of_lt hil, hl1]) hownd (.inl rfl))
            have HF := Hid.mk HM.out.put3
            have m32 := HM.out.k3 2
            have f32 := HM.out.f3 2
            simp only [List.getElem?_toArray, List.getElem?_cons_zero, List.getElem?_cons_succ] at m32
            clear hownd hgd HQ
            go_wp2
            clear m32 f32 HM
            generalize w8.setCell ⟨w.heap.size, 2, none⟩ (.slice (some ⟨bb, off, none⟩) (n1 - 1) c3) = w9 at *
            go_loopw [16, 17] (fun _ _ wr => ∃ (l : List Bk) (o : Nat) (b1 : Option Addr) (m1 d1 : Nat), Hid (QInv w wr B b1 a4 m1 n2 d1 c4 { y with l := l } b.a o b.t) ∧ order ≤ o ∧ Hid (OkL y.f y.e l) ∧ Hid (fitsB y.f y.e b.a o) ∧ Hid (∀ x ∈ l, apartB b.a o x) ∧ Hid (splitDown (y.l.eraseIdx i) b.a b.t order b.o = splitDown l b.a b.t order o)) (fun _ _ wr => ((wr.cell? ⟨B, 1, none⟩).map fun v => (intOf v).toNat).getD 0)
            case atStart => exact ⟨y.l.eraseIdx i, b.o, _, n1 - 1, c3, HF, hbo, HOK, HFT, HAP, rfl⟩
            case round =>
              clear HF HOK HFT HAP
              obtain ⟨l, o', b1, m1, d1, HQ, hoo, HOK, HFT, HAP, HSP⟩ := hrel
              have hlo := HQ.out.lo
              have hBr := HQ.out.hB
              have hHi2 := HQ.out.g.hi
              have k150 := HQ.out.k15 0
              have k151 := HQ.out.k15 1
              have k152 := HQ.out.k15 2
              have f151 := HQ.out.f15 1
              simp only [List.getElem?_toArray, List.getElem?_cons_zero, List.getElem?_cons_succ] at k150 k151 k152
              by_cases hgt : order < o'
              · obtain ⟨m, rfl⟩ : ∃ m, o' = m + 1 := ⟨o' - 1, by omega⟩
                have dgt : (order : Int) < (m : Int) + 1 := by omega
                have hm1 : ((m : Int) + 1) - 1 = (m : Int) := by omega
                have HQ2 := Hid.mk (HQ.out.put15 1 (m : Int) (a' := b.a) (o' := m) (t' := b.t) rfl)
                obtain ⟨s1, s2, s3⟩ := split_step hyok.1.e16 hbf.2 HOK.out HFT.out HAP.out
                have hm4 : m + 1 ≤ 4 := HFT.out.1
                have hafit := HFT.out
                obtain ⟨H, hH⟩ : ∃ H, (⟨b.a, m, b.t⟩ : Bk).fin = H := ⟨_, rfl⟩
                have hH2 : b.a + 2 ^ m = H := hH
                have hHle : H ≤ 300 := by have := fits_end hyok.1.e16 s2; have := hyok.1.e2; omega
                rw [hH2] at s1 s3
                have HSQ : Hid (splitDown l b.a b.t order (m + 1) = splitDown (putIn l ⟨H, m, b.t⟩) b.a b.t order m) := by
                  unfold Hid
                  conv => lhs; unfold splitDown
                  rw [if_pos (by omega), hH2]
                have hlm : l.length = m1 := HQ.out.g.own.l1
                have hl256 : l.length ≤ 256 := Nat.le_trans (OkL.length_le HOK.out (fun x hx => (HOK.out.fit x hx).1.2.2.1)) hyok.1.e2
                have HS1 := Hid.mk s1
                have HS2 := Hid.mk s2
                have HS3 := Hid.mk s3
                clear s1 s2 s3
                go_wp2_with fail
                have k15 := HQ2.out.k15
                have hB2 := HQ2.out.hB
                have hye2 := hyok.1.e2
                clear k150 k151 k152 f151
                generalize wr.setCell ⟨B, 1, none⟩ (.int .i64 (m : Int)) = wv at *
                have k150 := k15 0
                have k151 := k15 1
                have k152 := k15 2
                simp only [List.getElem?_toArray, List.getElem?_cons_zero, List.getElem?_cons_succ] at k150 k151 k152
                have hBne : B ≠ wv.heap.size := by omega
                go_region_held3 (fun w' => w'.cell? ⟨B, 0, none⟩ = some (.int .i64 (b.a : Int)) ∧ w'.cell? ⟨B, 1, none⟩ = some (.int .i64 (m : Int)) ∧ w'.cell? ⟨B, 2, none⟩ = some (.int .i64 (b.t : Int))) (first | exact ⟨k150, k151, k152⟩ | exact ⟨q0, q1, q2⟩ | exact ⟨box_set_other (box_set_other (box_set_other K15k hBne _ _) hBne _ _) hBne _ _ 0, box_set_other (box_set_other (box_set_other K15k hBne _ _) hBne _ _) hBne _ _ 1, box_set_other (box_set_other (box_set_other K15k hBne _ _) hBne _ _) hBne _ _ 2⟩ | go_keep) (first | (go_at_call 59; refine (end_bk ⟨b.a, m, b.t⟩ _ (by show m ≤ 4; omega) (by show b.a ≤ 1000; have := hafit.2.2.1; omega)).mono ?_; rintro ev wk ⟨rfl, hbk⟩; have hbA := Below.step ((Below.refl wv.heap.size wv).drew) hbk; have q0 := (hbA.cell (p := ⟨B, 0, none⟩) hB2).trans k150; have q1 := (hbA.cell (p := ⟨B, 1, none⟩) hB2).trans k151; have q2 := (hbA.cell (p := ⟨B, 2, none⟩) hB2).trans k152; have hqb : B < wk.heap.size := Nat.lt_of_lt_of_le hB2 hbA.size) | (go_at_call 59; refine (end_bk ⟨b.a, m, b.t⟩ _ (by show m ≤ 4; omega) (by show b.a ≤ 1000; have := hafit.2.2.1; omega)).mono ?_; rintro ev wk ⟨rfl, hbk⟩; have hbB := Below.step (below_alloc wv (.cells #[.int .i64 0, .int .i64 0, .int .i64 0] 40)) (Below.step ((Below.refl _ _).drew) hbk); have q0 := (hbB.cell (p := ⟨B, 0, none⟩) hB2).trans k150; have q1 := (hbB.cell (p := ⟨B, 1, none⟩) hB2).trans k151; have q2 := (hbB.cell (p := ⟨B, 2, none⟩) hB2).trans k152; have hqb : B < wk.heap.size := Nat.lt_of_lt_of_le hB2 hbB.size; have K15k := box_step k15 hB2 hbB; have K16 := box_step (box_new wv #[.int .i64 0, .int .i64 0, .int .i64 0] 40) (show wv.heap.size < (wv.alloc (.cells #[.int .i64 0, .int .i64 0, .int .i64 0] 40)).heap.size by simp) (Below.step ((Below.refl _ _).drew) hbk); have F16 := frz_step (box_frz wv #[.int .i64 0, .int .i64 0, .int .i64 0] 40) (show wv.heap.size < (wv.alloc (.cells #[.int .i64 0, .int .i64 0, .int .i64 0] 40)).heap.size by simp) (Below.step ((Below.refl _ _).drew) hbk); have hGk : wv.heap.size < wk.heap.size := Nat.lt_of_lt_of_le (show wv.heap.size < (wv.alloc (.cells #[.int .i64 0, .int .i64 0, .int .i64 0] 40)).heap.size by simp) (Below.step ((Below.refl _ _).drew) hbk).size))
                all_goals rename_i hHeld
                all_goals clear hHeld
                · have HQ4 : Hid (QInv w (wk.alloc (.cells #[.int .i64 (H : Int), .int .i64 (m : Int), .int .i64 (b.t : Int)] 40)) B b1 a4 m1 n2 d1 c4 { y with l := l } b.a m b.t) := (HQ2.out.below hbA).below (below_alloc wk _)
                  have K16f := box_new wk #[.int .i64 (H : Int), .int .i64 (m : Int), .int .i64 (b.t : Int)] 40
                  have hGW : wk.heap.size < (wk.alloc (.cells #[.int .i64 (H : Int), .int .i64 (m : Int), .int .i64 (b.t : Int)] 40)).heap.size := by simp
                  clear q0 q1 q2 hbA hbk HQ2 k150 k151 k152 k15
                  generalize wk.heap.size = G at *
                  generalize wk.alloc (.cells #[.int .i64 (H : Int), .int .i64 (m : Int), .int .i64 (b.t : Int)] 40) = wh at *
                  -- the half is put back, from the world wh
                  have k30 := HQ4.out.g.k3 0
                  have k31 := HQ4.out.g.k3 1
                  have k32 := HQ4.out.g.k3 2
                  have k33 := HQ4.out.g.k3 3
                  have hHi4 := HQ4.out.g.hi
                  have k160 := K16f 0
                  have k161 := K16f 1
                  have k162 := K16f 2
                  simp only [List.getElem?_toArray, List.getElem?_cons_zero, List.getElem?_cons_succ] at k30 k31 k32 k33 k160 k161 k162
                  go_wp2_with fail
                  refine (find_ok _ _ _ _ _ _ y.f y.e { y with l := l } H _ HQ4.out.g.own.at (by omega) HOK.out.rise (fun x hx => by have := (HOK.out.fit x hx).1.2.2.1; have := hyok.1.e2; omega) (by omega)).mono ?_
                  rintro ev w8 ⟨rfl, hb8⟩
                  have HQ5 := Hid.mk (HQ4.out.below hb8)
                  have K16g := box_step K16f hGW hb8
                  have hGW8 := Nat.lt_of_lt_of_le hGW hb8.size
                  clear hb8 HQ4 K16f k30 k31 k32 k33 k160 k161 k162 hGW
                  have k32 := HQ5.out.g.k3 2
                  have hHi5 := HQ5.out.g.hi
                  have k160 := K16g 0
                  have k161 := K16g 1
                  have k162 := K16g 2
                  simp only [List.getElem?_toArray, List.getElem?_cons_zero, List.getElem?_cons_succ] at k32 k160 k161 k162
                  have hwr8 : w.heap.size < w8.heap.size := by omega
                  go_wp2_with fail
                  have hbn := below_alloc w8 (.cells #[.int .i64 (H : Int), .int .i64 (m : Int), .int .i64 (b.t : Int)] 40)
                  have HQ6 := Hid.mk (HQ5.out.below hbn)
                  have hnew : (w8.alloc (.cells #[.int .i64 (H : Int), .int .i64 (m : Int), .int .i64 (b.t : Int)] 40)).heap[w8.heap.size]? = some (.cells (encBk ⟨H, m, b.t⟩).toArray 40 (0, 0)) := heap_alloc_new w8 _
                  have hnn := (HQ5.out.g.own.ne (g := w8.heap.size) (.inr (Nat.le_refl _))).1
                  clear HQ5 k32 k160 k161 k162 K16g hGW8 hwr8
                  have hlbm : lb l H ≤ m1 := by have := lb_le l H; omega
                  generalize w8.heap.size = G2 at *
                  generalize w8.alloc (.cells #[.int .i64 (H : Int), .int .i64 (m : Int), .int .i64 (b.t : Int)] 40) = wn at *
                  refine (insert_bk (w.heap.size + 2) _ _ _ G2 (lb l H) l ⟨H, m, b.t⟩ _ HQ6.out.g.own.o1 hlbm (by omega) HQ6.out.g.hi hnew (fun e => hnn e.symm)).mono ?_
                  rintro ev wi ⟨e1, f1, rfl, howni, hgi⟩
                  have hplen : (putIn l ⟨H, m, b.t⟩).length = m1 + 1 := by unfold putIn; rw [List.length_append, List.length_cons, List.length_take, List.length_drop]; have := lb_le l H; simp only; omega
                  have HM2 := Hid.mk (HQ6.out.grown hgi (l' := putIn l ⟨H, m, b.t⟩) hplen howni (.inr ⟨by omega, fun x hx => apart_ne (HS3.out x hx)⟩))
                  have HF2 := Hid.mk HM2.out.put3
                  have m32 := HM2.out.k3 2
                  have f32 := HM2.out.f3 2
                  simp only [List.getElem?_toArray, List.getElem?_cons_zero, List.getElem?_cons_succ] at m32
                  clear HQ6 hnew hnn howni hgi
                  go_wp2
                  go_roundw
                  case rel => exact ⟨putIn l ⟨H, m, b.t⟩, m, e1, m1 + 1, f1, HF2, by omega, HS1, HS2, HS3, HSP.out.trans HSQ.out⟩
                  case measure =>
                    rw [show wr.cell? ⟨B, 1, none⟩ = some (.int .i64 ((m + 1 : Nat) : Int)) from HQ.out.k15 1, show (wi.setCell _ _).cell? ⟨B, 1, none⟩ = some (.int .i64 (m : Int)) from HF2.out.k15 1]
                    simp [intOf]

                · have hnoG := HQ2.out.g.own.ne (g := wv.heap.size) (.inr (Nat.le_refl _))
                  have hG2 : w.heap.size + 2 ≤ wv.heap.size := HQ2.out.g.hi
                  have HQ4 : Hid (QInv w (((wk.setCell ⟨wv.heap.size, 0, none⟩ (.int .i64 (H : Int))).setCell ⟨wv.heap.size, 1, none⟩ (.int .i64 (m : Int))).setCell ⟨wv.heap.size, 2, none⟩ (.int .i64 (b.t : Int))) B b1 a4 m1 n2 d1 c4 { y with l := l } b.a m b.t) := (((HQ2.out.below hbB).putFar hG2 (Ne.symm hBne) hnoG _ _).putFar hG2 (Ne.symm hBne) hnoG _ _).putFar hG2 (Ne.symm hBne) hnoG _ _
                  have K16f : ∀ o, (((wk.setCell ⟨wv.heap.size, 0, none⟩ (.int .i64 (H : Int))).setCell ⟨wv.heap.size, 1, none⟩ (.int .i64 (m : Int))).setCell ⟨wv.heap.size, 2, none⟩ (.int .i64 (b.t : Int))).cell? ⟨wv.heap.size, o, none⟩ = (#[.int .i64 (H : Int), .int .i64 (m : Int), .int .i64 (b.t : Int)] : Array Value)[o]? := box_set (box_set (box_set K16 0 _) 1 _) 2 _
                  have hGW : wv.heap.size < (((wk.setCell ⟨wv.heap.size, 0, none⟩ (.int .i64 (H : Int))).setCell ⟨wv.heap.size, 1, none⟩ (.int .i64 (m : Int))).setCell ⟨wv.heap.size, 2, none⟩ (.int .i64 (b.t : Int))).heap.size := by simpa using hGk
                  clear q0 q1 q2 hbB hbk HQ2 k150 k151 k152 k15 K15k K16 F16 hGk hnoG hG2 hBne
                  generalize ((wk.setCell ⟨wv.heap.size, 0, none⟩ (.int .i64 (H : Int))).setCell ⟨wv.heap.size, 1, none⟩ (.int .i64 (m : Int))).setCell ⟨wv.heap.size, 2, none⟩ (.int .i64 (b.t : Int)) = wh at *
                  generalize wv.heap.size = G at *
                  -- the half is put back, from the world wh
                  have k30 := HQ4.out.g.k3 0
                  have k31 := HQ4.out.g.k3 1
                  have k32 := HQ4.out.g.k3 2
                  have k33 := HQ4.out.g.k3 3
                  have hHi4 := HQ4.out.g.hi
                  have k160 := K16f 0
                  have k161 := K16f 1
                  have k162 := K16f 2
                  simp only [List.getElem?_toArray, List.getElem?_cons_zero, List.getElem?_cons_succ] at k30 k31 k32 k33 k160 k161 k162
                  go_wp2_with fail
                  refine (find_ok _ _ _ _ _ _ y.f y.e { y with l := l } H _ HQ4.out.g.own.at (by omega) HOK.out.rise (fun x hx => by have := (HOK.out.fit x hx).1.2.2.1; have := hyok.1.e2; omega) (by omega)).mono ?_
                  rintro ev w8 ⟨rfl, hb8⟩
                  have HQ5 := Hid.mk (HQ4.out.below hb8)
                  have K16g := box_step K16f hGW hb8
                  have hGW8 := Nat.lt_of_lt_of_le hGW hb8.size
                  clear hb8 HQ4 K16f k30 k31 k32 k33 k160 k161 k162 hGW
                  have k32 := HQ5.out.g.k3 2
                  have hHi5 := HQ5.out.g.hi
                  have k160 := K16g 0
                  have k161 := K16g 1
                  have k162 := K16g 2
                  simp only [List.getElem?_toArray, List.getElem?_cons_zero, List.getElem?_cons_succ] at k32 k160 k161 k162
                  have hwr8 : w.heap.size < w8.heap.size := by omega
                  go_wp2_with fail
                  have hbn := below_alloc w8 (.cells #[.int .i64 (H : Int), .int .i64 (m : Int), .int .i64 (b.t : Int)] 40)
                  have HQ6 := Hid.mk (HQ5.out.below hbn)
                  have hnew : (w8.alloc (.cells #[.int .i64 (H : Int), .int .i64 (m : Int), .int .i64 (b.t : Int)] 40)).heap[w8.heap.size]? = some (.cells (encBk ⟨H, m, b.t⟩).toArray 40 (0, 0)) := heap_alloc_new w8 _
                  have hnn := (HQ5.out.g.own.ne (g := w8.heap.size) (.inr (Nat.le_refl _))).1
                  clear HQ5 k32 k160 k161 k162 K16g hGW8 hwr8
                  have hlbm : lb l H ≤ m1 := by have := lb_le l H; omega
                  generalize w8.heap.size = G2 at *
                  generalize w8.alloc (.cells #[.int .i64 (H : Int), .int .i64 (m : Int), .int .i64 (b.t : Int)] 40) = wn at *
                  refine (insert_bk (w.heap.size + 2) _ _ _ G2 (lb l H) l ⟨H, m, b.t⟩ _ HQ6.out.g.own.o1 hlbm (by omega) HQ6.out.g.hi hnew (fun e => hnn e.symm)).mono ?_
                  rintro ev wi ⟨e1, f1, rfl, howni, hgi⟩
                  have hplen : (putIn l ⟨H, m, b.t⟩).length = m1 + 1 := by unfold putIn; rw [List.length_append, List.length_cons, List.length_take, List.length_drop]; have := lb_le l H; simp only; omega
                  have HM2 := Hid.mk (HQ6.out.grown hgi (l' := putIn l ⟨H, m, b.t⟩) hplen howni (.inr ⟨by omega, fun x hx => apart_ne (HS3.out x hx)⟩))
                  have HF2 := Hid.mk HM2.out.put3
                  have m32 := HM2.out.k3 2
                  have f32 := HM2.out.f3 2
                  simp only [List.getElem?_toArray, List.getElem?_cons_zero, List.getElem?_cons_succ] at m32
                  clear HQ6 hnew hnn howni hgi
                  go_wp2
                  go_roundw
                  case rel => exact ⟨putIn l ⟨H, m, b.t⟩, m, e1, m1 + 1, f1, HF2, by omega, HS1, HS2, HS3, HSP.out.trans HSQ.out⟩
                  case measure =>
                    rw [show wr.cell? ⟨B, 1, none⟩ = some (.int .i64 ((m + 1 : Nat) : Int)) from HQ.out.k15 1, show (wi.setCell _ _).cell? ⟨B, 1, none⟩ = some (.int .i64 (m : Int)) from HF2.out.k15 1]
                    simp [intOf]

              · obtain rfl : o' = order := by omega
                have dgt : ¬ (o' : Int) < o' := by omega
                have k30 := HQ.out.g.k3 0
                have k31 := HQ.out.g.k3 1
                have k32 := HQ.out.g.k3 2
                have k33 := HQ.out.g.k3 3
                have k6 := HQ.out.g.k6
                have f6 := HQ.out.g.f6
                simp only [List.getElem?_toArray, List.getElem?_cons_zero, List.getElem?_cons_succ] at k30 k31 k32 k33
                go_wp2_with fail
                have hsd : splitDown l b.a b.t o' o' = l := by
                  cases o' with
                  | zero => rfl
                  | succ o' => unfold splitDown; rw [if_neg (by omega)]
                have HTK : Hid (z.take o' t = some ({ y with l := l }, b.a)) := by
                  unfold Hid
                  rw [HCUT.out, HSP.out, hsd]
                clear hsd
                go_region
                go_wp2
                refine bodyPost_ret (v := .tuple #[.agg #[.int .i64 y.f, .int .i64 y.e, .slice b1 m1 d1, .slice a4 n2 c4], .int .i64 b.a, .int .i64 0]) (by simp [results, Tryd.results76, go_sem, k6]) rfl (.inr ⟨{ y with l := l }, b.a, b1, a4, m1, d1, c4, HTK.out, by rw [HYF.out, HYE.out], ?_, ?_⟩)
                · have no := HQ.out.g.own.ne (g := w.heap.size + 1) (.inl (by omega))
                  exact (((((HQ.out.g.own.set no _ _).set no _ _).set no _ _).set no _ _).below ((Below.refl _ _).drew)).base (by omega)
                · exact Below.drew (Below.setCell (Below.setCell (Below.setCell (Below.setCell HQ.out.g.bw (by simp only; omega) _) (by simp only; omega) _) (by simp only; omega) _) (by simp only; omega) _)

    | some i =>
      have HS : Hid (Sought z order t (some i) z (findDown z.l t order 5)) := by
        rcases HR.out with ⟨h, _⟩ | ⟨j, h, hj⟩
        · cases h
        · obtain rfl : i = j := by simpa using h
          exact sought_up hz hj _
      simp only [encO]
      have HK0 := HK
      clear HK
      go_wp2
      generalize wr = wq at *
      go_loopw [10, 12] (fun s10 s12 wr => ∃ (y : Zn) (n : Nat), s10 = .int .i64 (i : Int) ∧ s12 = .int .i64 (n : Int) ∧ Hid (Sought z order t (some i) y (findDown z.l t order 5)) ∧ Hid (GInv w wr a3 a4 n1 n2 c3 c4 y)) (fun _ _ _ => 0)
      case atStart => exact ⟨z, 4, rfl, rfl, HS, HK0⟩
      case round =>
        clear HS HK0
        obtain ⟨y, n, rfl, rfl, HS, HK⟩ := hrel
        have hi0 : ¬ (i : Int) < 0 := by omega
        first
          | skip
            have hdone := trivial
            -- the block is found, in the zone y as it is by now
            obtain ⟨b, hib, hcut, hyok, hyf, hye, hyb, hbo, hyl, hll⟩ : ∃ b, z.take order t = y.cut i order ∧ z.take order t = y.cut i order ∧ y.ok ∧ y.f = z.f ∧ y.e = z.e ∧ y.l[i]? = some b ∧ order ≤ b.o ∧ y.y.length = z.y.length ∧ y.l.length = z.l.length := by
              rcases HS.out with ⟨h, _⟩ | ⟨i', b, h, h1, h2, h3, h4, h5, h6, h7, h8⟩
              · cases h
              · obtain rfl : i = i' := by simpa using h
                exact ⟨b, h1, h1, h2, h3, h4, h5, h6, h7, h8⟩
            have HYF := Hid.mk hyf
            have HYE := Hid.mk hye
            clear hyf hye
            obtain ⟨hil, hbi⟩ := List.getElem?_eq_some_iff.1 hyb
            obtain ⟨bb, off, hb1, hbb, hc⟩ := row_elem encBk_length (by decide) HK.out.own.at.r1 hil
            obtain rfl := hb1
            obtain ⟨hc0, hc1, hc2⟩ := encBk_cells hc
            rw [hbi] at hc0 hc1 hc2
            have hbm : b ∈ y.l := by rw [← hbi]; exact List.getElem_mem hil
            have hbf := hyok.2.fit b hbm
            have hapart : ∀ x ∈ y.l.eraseIdx i, apartB b.a b.o x := fun x hx => by
              obtain ⟨j, hj, hne, rfl⟩ := List.mem_eraseIdx_iff_getElem.1 hx
              have := sep_two hyok.2.sep hj hil hne
              rw [hbi] at this
              exact this
            have HCUT : Hid (z.take order t = some ({ y with l := splitDown (y.l.eraseIdx i) b.a b.t order b.o }, b.a)) := by
              unfold Hid
              rw [hcut]
              unfold Zn.cut
              rw [hyb]
            have HOK : Hid (OkL y.f y.e (y.l.eraseIdx i)) := hyok.2.sublist (List.eraseIdx_sublist _ _)
            have HFT : Hid (fitsB y.f y.e b.a b.o) := hbf.1
            have HAP := Hid.mk hapart
            have hl1 := HK.out.own.l1
            have hl2 := HK.out.own.l2
            have hin : (i : Int) < n1 := by omega
            have hin2 : i < n1 := by omega
            have k32 := HK.out.k3 2
            have hHi := HK.out.hi
            simp only [List.getElem?_toArray, List.getElem?_cons_zero, List.getElem?_cons_succ] at k32
            have hwr0 : w.heap.size < wr.heap.size := by omega
            have hbn := below_alloc wr (.cells #[.int .i64 (b.a : Int), .int .i64 (b.o : Int), .int .i64 (b.t : Int)] 40)
            have HQ : Hid (QInv w (wr.alloc (.cells #[.int .i64 (b.a : Int), .int .i64 (b.o : Int), .int .i64 (b.t : Int)] 40)) wr.heap.size (some ⟨bb, off, none⟩) a4 n1 n2 c3 c4 y b.a b.o b.t) :=
              ⟨HK.out.below hbn, box_new wr _ _, box_frz wr _ _, hHi, by simp, HK.out.own.ne (.inr (Nat.le_refl _))⟩
            clear hbi hyb hapart hc hbm hcut hib HS
            go_wp2_with fail
            clear hc0 hc1 hc2 k32 HK hbn
            generalize wr.alloc (.cells #[.int .i64 (b.a : Int), .int .i64 (b.o : Int), .int .i64 (b.t : Int)] 40) = w7 at *
            generalize wr.heap.size = B at *
            refine (delete_bk (w.heap.size + 2) _ _ _ y.l i _ HQ.out.g.own.o1 hin2 (by omega) HQ.out.g.hi).mono ?_
            rintro ev w8 ⟨rfl, hownd, hgd⟩
            have HM := Hid.mk (HQ.out.grown hgd (l' := y.l.eraseIdx i) (by rw [List.length_eraseIdx_of_lt hil, hl1]) hownd (.inl rfl))
            have HF := Hid.mk HM.out.put3
            have m32 := HM.out.k3 2
            have f32 := HM.out.f3 2
            simp only [List.getElem?_toArray, List.getElem?_cons_zero, List.getElem?_cons_succ] at m32
            clear hownd hgd HQ
            go_wp2
            clear m32 f32 HM
            generalize w8.setCell ⟨w.heap.size, 2, none⟩ (.slice (some ⟨bb, off, none⟩) (n1 - 1) c3) = w9 at *
            go_loopw [16, 17] (fun _ _ wr => ∃ (l : List Bk) (o : Nat) (b1 : Option Addr) (m1 d1 : Nat), Hid (QInv w wr B b1 a4 m1 n2 d1 c4 { y with l := l } b.a o b.t) ∧ order ≤ o ∧ Hid (OkL y.f y.e l) ∧ Hid (fitsB y.f y.e b.a o) ∧ Hid (∀ x ∈ l, apartB b.a o x) ∧ Hid (splitDown (y.l.eraseIdx i) b.a b.t order b.o = splitDown l b.a b.t order o)) (fun _ _ wr => ((wr.cell? ⟨B, 1, none⟩).map fun v => (intOf v).toNat).getD 0)
            case atStart => exact ⟨y.l.eraseIdx i, b.o, _, n1 - 1, c3, HF, hbo, HOK, HFT, HAP, rfl⟩
            case round =>
              clear HF HOK HFT HAP
              obtain ⟨l, o', b1, m1, d1, HQ, hoo, HOK, HFT, HAP, HSP⟩ := hrel
              have hlo := HQ.out.lo
              have hBr := HQ.out.hB
              have hHi2 := HQ.out.g.hi
              have k150 := HQ.out.k15 0
              have k151 := HQ.out.k15 1
              have k152 := HQ.out.k15 2
              have f151 := HQ.out.f15 1
              simp only [List.getElem?_toArray, List.getElem?_cons_zero, List.getElem?_cons_succ] at k150 k151 k152
              by_cases hgt : order < o'
              · obtain ⟨m, rfl⟩ : ∃ m, o' = m + 1 := ⟨o' - 1, by omega⟩
                have dgt : (order : Int) < (m : Int) + 1 := by omega
                have hm1 : ((m : Int) + 1) - 1 = (m : Int) := by omega
                have HQ2 := Hid.mk (HQ.out.put15 1 (m : Int) (a' := b.a) (o' := m) (t' := b.t) rfl)
                obtain ⟨s1, s2, s3⟩ := split_step hyok.1.e16 hbf.2 HOK.out HFT.out HAP.out
                have hm4 : m + 1 ≤ 4 := HFT.out.1
                have hafit := HFT.out
                obtain ⟨H, hH⟩ : ∃ H, (⟨b.a, m, b.t⟩ : Bk).fin = H := ⟨_, rfl⟩
                have hH2 : b.a + 2 ^ m = H := hH
                have hHle : H ≤ 300 := by have := fits_end hyok.1.e16 s2; have := hyok.1.e2; omega
                rw [hH2] at s1 s3
                have HSQ : Hid (splitDown l b.a b.t order (m + 1) = splitDown (putIn l ⟨H, m, b.t⟩) b.a b.t order m) := by
                  unfold Hid
                  conv => lhs; unfold splitDown
                  rw [if_pos (by omega), hH2]
                have hlm : l.length = m1 := HQ.out.g.own.l1
                have hl256 : l.length ≤ 256 := Nat.le_trans (OkL.length_le HOK.out (fun x hx => (HOK.out.fit x hx).1.2.2.1)) hyok.1.e2
                have HS1 := Hid.mk s1
                have HS2 := Hid.mk s2
                have HS3 := Hid.mk s3
                clear s1 s2 s3
                go_wp2_with fail
                have k15 := HQ2.out.k15
                have hB2 := HQ2.out.hB
                have hye2 := hyok.1.e2
                clear k150 k151 k152 f151
                generalize wr.setCell ⟨B, 1, none⟩ (.int .i64 (m : Int)) = wv at *
                have k150 := k15 0
                have k151 := k15 1
                have k152 := k15 2
                simp only [List.getElem?_toArray, List.getElem?_cons_zero, List.getElem?_cons_succ] at k150 k151 k152
                have hBne : B ≠ wv.heap.size := by omega
                go_region_held3 (fun w' => w'.cell? ⟨B, 0, none⟩ = some (.int .i64 (b.a : Int)) ∧ w'.cell? ⟨B, 1, none⟩ = some (.int .i64 (m : Int)) ∧ w'.cell? ⟨B, 2, none⟩ = some (.int .i64 (b.t : Int))) (first | exact ⟨k150, k151, k152⟩ | exact ⟨q0, q1, q2⟩ | exact ⟨box_set_other (box_set_other (box_set_other K15k hBne _ _) hBne _ _) hBne _ _ 0, box_set_other (box_set_other (box_set_other K15k hBne _ _) hBne _ _) hBne _ _ 1, box_set_other (box_set_other (box_set_other K15k hBne _ _) hBne _ _) hBne _ _ 2⟩ | go_keep) (first | (go_at_call 59; refine (end_bk ⟨b.a, m, b.t⟩ _ (by show m ≤ 4; omega) (by show b.a ≤ 1000; have := hafit.2.2.1; omega)).mono ?_; rintro ev wk ⟨rfl, hbk⟩; have hbA := Below.step ((Below.refl wv.heap.size wv).drew) hbk; have q0 := (hbA.cell (p := ⟨B, 0, none⟩) hB2).trans k150; have q1 := (hbA.cell (p := ⟨B, 1, none⟩) hB2).trans k151; have q2 := (hbA.cell (p := ⟨B, 2, none⟩) hB2).trans k152; have hqb : B < wk.heap.size := Nat.lt_of_lt_of_le hB2 hbA.size) | (go_at_call 59; refine (end_bk ⟨b.a, m, b.t⟩ _ (by show m ≤ 4; omega) (by show b.a ≤ 1000; have := hafit.2.2.1; omega)).mono ?_; rintro ev wk ⟨rfl, hbk⟩; have hbB := Below.step (below_alloc wv (.cells #[.int .i64 0, .int .i64 0, .int .i64 0] 40)) (Below.step ((Below.refl _ _).drew) hbk); have q0 := (hbB.cell (p := ⟨B, 0, none⟩) hB2).trans k150; have q1 := (hbB.cell (p := ⟨B, 1, none⟩) hB2).trans k151; have q2 := (hbB.cell (p := ⟨B, 2, none⟩) hB2).trans k152; have hqb : B < wk.heap.size := Nat.lt_of_lt_of_le hB2 hbB.size; have K15k := box_step k15 hB2 hbB; have K16 := box_step (box_new wv #[.int .i64 0, .int .i64 0, .int .i64 0] 40) (show wv.heap.size < (wv.alloc (.cells #[.int .i64 0, .int .i64 0, .int .i64 0] 40)).heap.size by simp) (Below.step ((Below.refl _ _).drew) hbk); have F16 := frz_step (box_frz wv #[.int .i64 0, .int .i64 0, .int .i64 0] 40) (show wv.heap.size < (wv.alloc (.cells #[.int .i64 0, .int .i64 0, .int .i64 0] 40)).heap.size by simp) (Below.step ((Below.refl _ _).drew) hbk); have hGk : wv.heap.size < wk.heap.size := Nat.lt_of_lt_of_le (show wv.heap.size < (wv.alloc (.cells #[.int .i64 0, .int .i64 0, .int .i64 0] 40)).heap.size by simp) (Below.step ((Below.refl _ _).drew) hbk).size))
                all_goals rename_i hHeld
                all_goals clear hHeld
                · have HQ4 : Hid (QInv w (wk.alloc (.cells #[.int .i64 (H : Int), .int .i64 (m : Int), .int .i64 (b.t : Int)] 40)) B b1 a4 m1 n2 d1 c4 { y with l := l } b.a m b.t) := (HQ2.out.below hbA).below (below_alloc wk _)
                  have K16f := box_new wk #[.int .i64 (H : Int), .int .i64 (m : Int), .int .i64 (b.t : Int)] 40
                  have hGW : wk.heap.size < (wk.alloc (.cells #[.int .i64 (H : Int), .int .i64 (m : Int), .int .i64 (b.t : Int)] 40)).heap.size := by simp
                  clear q0 q1 q2 hbA hbk HQ2 k150 k151 k152 k15
                  generalize wk.heap.size = G at *
                  generalize wk.alloc (.cells #[.int .i64 (H : Int), .int .i64 (m : Int), .int .i64 (b.t : Int)] 40) = wh at *
                  -- the half is put back, from the world wh
                  have k30 := HQ4.out.g.k3 0
                  have k31 := HQ4.out.g.k3 1
                  have k32 := HQ4.out.g.k3 2
                  have k33 := HQ4.out.g.k3 3
                  have hHi4 := HQ4.out.g.hi
                  have k160 := K16f 0
                  have k161 := K16f 1
                  have k162 := K16f 2
                  simp only [List.getElem?_toArray, List.getElem?_cons_zero, List.getElem?_cons_succ] at k30 k31 k32 k33 k160 k161 k162
                  go_wp2_with fail
                  refine (find_ok _ _ _ _ _ _ y.f y.e { y with l := l } H _ HQ4.out.g.own.at (by omega) HOK.out.rise (fun x hx => by have := (HOK.out.fit x hx).1.2.2.1; have := hyok.1.e2; omega) (by omega)).mono ?_
                  rintro ev w8 ⟨rfl, hb8⟩
                  have HQ5 := Hid.mk (HQ4.out.below hb8)
                  have K16g := box_step K16f hGW hb8
                  have hGW8 := Nat.lt_of_lt_of_le hGW hb8.size
                  clear hb8 HQ4 K16f k30 k31 k32 k33 k160 k161 k162 hGW
                  have k32 := HQ5.out.g.k3 2
                  have hHi5 := HQ5.out.g.hi
                  have k160 := K16g 0
                  have k161 := K16g 1
                  have k162 := K16g 2
                  simp only [List.getElem?_toArray, List.getElem?_cons_zero, List.getElem?_cons_succ] at k32 k160 k161 k162
                  have hwr8 : w.heap.size < w8.heap.size := by omega
                  go_wp2_with fail
                  have hbn := below_alloc w8 (.cells #[.int .i64 (H : Int), .int .i64 (m : Int), .int .i64 (b.t : Int)] 40)
                  have HQ6 := Hid.mk (HQ5.out.below hbn)
                  have hnew : (w8.alloc (.cells #[.int .i64 (H : Int), .int .i64 (m : Int), .int .i64 (b.t : Int)] 40)).heap[w8.heap.size]? = some (.cells (encBk ⟨H, m, b.t⟩).toArray 40 (0, 0)) := heap_alloc_new w8 _
                  have hnn := (HQ5.out.g.own.ne (g := w8.heap.size) (.inr (Nat.le_refl _))).1
                  clear HQ5 k32 k160 k161 k162 K16g hGW8 hwr8
                  have hlbm : lb l H ≤ m1 := by have := lb_le l H; omega
                  generalize w8.heap.size = G2 at *
                  generalize w8.alloc (.cells #[.int .i64 (H : Int), .int .i64 (m : Int), .int .i64 (b.t : Int)] 40) = wn at *
                  refine (insert_bk (w.heap.size + 2) _ _ _ G2 (lb l H) l ⟨H, m, b.t⟩ _ HQ6.out.g.own.o1 hlbm (by omega) HQ6.out.g.hi hnew (fun e => hnn e.symm)).mono ?_
                  rintro ev wi ⟨e1, f1, rfl, howni, hgi⟩
                  have hplen : (putIn l ⟨H, m, b.t⟩).length = m1 + 1 := by unfold putIn; rw [List.length_append, List.length_cons, List.length_take, List.length_drop]; have := lb_le l H; simp only; omega
                  have HM2 := Hid.mk (HQ6.out.grown hgi (l' := putIn l ⟨H, m, b.t⟩) hplen howni (.inr ⟨by omega, fun x hx => apart_ne (HS3.out x hx)⟩))
                  have HF2 := Hid.mk HM2.out.put3
                  have m32 := HM2.out.k3 2
                  have f32 := HM2.out.f3 2
                  simp only [List.getElem?_toArray, List.getElem?_cons_zero, List.getElem?_cons_succ] at m32
                  clear HQ6 hnew hnn howni hgi
                  go_wp2
                  go_roundw
                  case rel => exact ⟨putIn l ⟨H, m, b.t⟩, m, e1, m1 + 1, f1, HF2, by omega, HS1, HS2, HS3, HSP.out.trans HSQ.out⟩
                  case measure =>
                    rw [show wr.cell? ⟨B, 1, none⟩ = some (.int .i64 ((m + 1 : Nat) : Int)) from HQ.out.k15 1, show (wi.setCell _ _).cell? ⟨B, 1, none⟩ = some (.int .i64 (m : Int)) from HF2.out.k15 1]
                    simp [intOf]

                · have hnoG := HQ2.out.g.own.ne (g := wv.heap.size) (.inr (Nat.le_refl _))
                  have hG2 : w.heap.size + 2 ≤ wv.heap.size := HQ2.out.g.hi
                  have HQ4 : Hid (QInv w (((wk.setCell ⟨wv.heap.size, 0, none⟩ (.int .i64 (H : Int))).setCell ⟨wv.heap.size, 1, none⟩ (.int .i64 (m : Int))).setCell ⟨wv.heap.size, 2, none⟩ (.int .i64 (b.t : Int))) B b1 a4 m1 n2 d1 c4 { y with l := l } b.a m b.t) := (((HQ2.out.below hbB).putFar hG2 (Ne.symm hBne) hnoG _ _).putFar hG2 (Ne.symm hBne) hnoG _ _).putFar hG2 (Ne.symm hBne) hnoG _ _
                  have K16f : ∀ o, (((wk.setCell ⟨wv.heap.size, 0, none⟩ (.int .i64 (H : Int))).setCell ⟨wv.heap.size, 1, none⟩ (.int .i64 (m : Int))).setCell ⟨wv.heap.size, 2, none⟩ (.int .i64 (b.t : Int))).cell? ⟨wv.heap.size, o, none⟩ = (#[.int .i64 (H : Int), .int .i64 (m : Int), .int .i64 (b.t : Int)] : Array Value)[o]? := box_set (box_set (box_set K16 0 _) 1 _) 2 _
                  have hGW : wv.heap.size < (((wk.setCell ⟨wv.heap.size, 0, none⟩ (.int .i64 (H : Int))).setCell ⟨wv.heap.size, 1, none⟩ (.int .i64 (m : Int))).setCell ⟨wv.heap.size, 2, none⟩ (.int .i64 (b.t : Int))).heap.size := by simpa using hGk
                  clear q0 q1 q2 hbB hbk HQ2 k150 k151 k152 k15 K15k K16 F16 hGk hnoG hG2 hBne
                  generalize ((wk.setCell ⟨wv.heap.size, 0, none⟩ (.int .i64 (H : Int))).setCell ⟨wv.heap.size, 1, none⟩ (.int .i64 (m : Int))).setCell ⟨wv.heap.size, 2, none⟩ (.int .i64 (b.t : Int)) = wh at *
                  generalize wv.heap.size = G at *
                  -- the half is put back, from the world wh
                  have k30 := HQ4.out.g.k3 0
                  have k31 := HQ4.out.g.k3 1
                  have k32 := HQ4.out.g.k3 2
                  have k33 := HQ4.out.g.k3 3
                  have hHi4 := HQ4.out.g.hi
                  have k160 := K16f 0
                  have k161 := K16f 1
                  have k162 := K16f 2
                  simp only [List.getElem?_toArray, List.getElem?_cons_zero, List.getElem?_cons_succ] at k30 k31 k32 k33 k160 k161 k162
                  go_wp2_with fail
                  refine (find_ok _ _ _ _ _ _ y.f y.e { y with l := l } H _ HQ4.out.g.own.at (by omega) HOK.out.rise (fun x hx => by have := (HOK.out.fit x hx).1.2.2.1; have := hyok.1.e2; omega) (by omega)).mono ?_
                  rintro ev w8 ⟨rfl, hb8⟩
                  have HQ5 := Hid.mk (HQ4.out.below hb8)
                  have K16g := box_step K16f hGW hb8
                  have hGW8 := Nat.lt_of_lt_of_le hGW hb8.size
                  clear hb8 HQ4 K16f k30 k31 k32 k33 k160 k161 k162 hGW
                  have k32 := HQ5.out.g.k3 2
                  have hHi5 := HQ5.out.g.hi
                  have k160 := K16g 0
                  have k161 := K16g 1
                  have k162 := K16g 2
                  simp only [List.getElem?_toArray, List.getElem?_cons_zero, List.getElem?_cons_succ] at k32 k160 k161 k162
                  have hwr8 : w.heap.size < w8.heap.size := by omega
                  go_wp2_with fail
                  have hbn := below_alloc w8 (.cells #[.int .i64 (H : Int), .int .i64 (m : Int), .int .i64 (b.t : Int)] 40)
                  have HQ6 := Hid.mk (HQ5.out.below hbn)
                  have hnew : (w8.alloc (.cells #[.int .i64 (H : Int), .int .i64 (m : Int), .int .i64 (b.t : Int)] 40)).heap[w8.heap.size]? = some (.cells (encBk ⟨H, m, b.t⟩).toArray 40 (0, 0)) := heap_alloc_new w8 _
                  have hnn := (HQ5.out.g.own.ne (g := w8.heap.size) (.inr (Nat.le_refl _))).1
                  clear HQ5 k32 k160 k161 k162 K16g hGW8 hwr8
                  have hlbm : lb l H ≤ m1 := by have := lb_le l H; omega
                  generalize w8.heap.size = G2 at *
                  generalize w8.alloc (.cells #[.int .i64 (H : Int), .int .i64 (m : Int), .int .i64 (b.t : Int)] 40) = wn at *
                  refine (insert_bk (w.heap.size + 2) _ _ _ G2 (lb l H) l ⟨H, m, b.t⟩ _ HQ6.out.g.own.o1 hlbm (by omega) HQ6.out.g.hi hnew (fun e => hnn e.symm)).mono ?_
                  rintro ev wi ⟨e1, f1, rfl, howni, hgi⟩
                  have hplen : (putIn l ⟨H, m, b.t⟩).length = m1 + 1 := by unfold putIn; rw [List.length_append, List.length_cons, List.length_take, List.length_drop]; have := lb_le l H; simp only; omega
                  have HM2 := Hid.mk (HQ6.out.grown hgi (l' := putIn l ⟨H, m, b.t⟩) hplen howni (.inr ⟨by omega, fun x hx => apart_ne (HS3.out x hx)⟩))
                  have HF2 := Hid.mk HM2.out.put3
                  have m32 := HM2.out.k3 2
                  have f32 := HM2.out.f3 2
                  simp only [List.getElem?_toArray, List.getElem?_cons_zero, List.getElem?_cons_succ] at m32
                  clear HQ6 hnew hnn howni hgi
                  go_wp2
                  go_roundw
                  case rel => exact ⟨putIn l ⟨H, m, b.t⟩, m, e1, m1 + 1, f1, HF2, by omega, HS1, HS2, HS3, HSP.out.trans HSQ.out⟩
                  case measure =>
                    rw [show wr.cell? ⟨B, 1, none⟩ = some (.int .i64 ((m + 1 : Nat) : Int)) from HQ.out.k15 1, show (wi.setCell _ _).cell? ⟨B, 1, none⟩ = some (.int .i64 (m : Int)) from HF2.out.k15 1]
                    simp [intOf]

              · obtain rfl : o' = order := by omega
                have dgt : ¬ (o' : Int) < o' := by omega
                have k30 := HQ.out.g.k3 0
                have k31 := HQ.out.g.k3 1
                have k32 := HQ.out.g.k3 2
                have k33 := HQ.out.g.k3 3
                have k6 := HQ.out.g.k6
                have f6 := HQ.out.g.f6
                simp only [List.getElem?_toArray, List.getElem?_cons_zero, List.getElem?_cons_succ] at k30 k31 k32 k33
                go_wp2_with fail
                have hsd : splitDown l b.a b.t o' o' = l := by
                  cases o' with
                  | zero => rfl
                  | succ o' => unfold splitDown; rw [if_neg (by omega)]
                have HTK : Hid (z.take o' t = some ({ y with l := l }, b.a)) := by
                  unfold Hid
                  rw [HCUT.out, HSP.out, hsd]
                clear hsd
                go_region
                go_wp2
                refine bodyPost_ret (v := .tuple #[.agg #[.int .i64 y.f, .int .i64 y.e, .slice b1 m1 d1, .slice a4 n2 c4], .int .i64 b.a, .int .i64 0]) (by simp [results, Tryd.results76, go_sem, k6]) rfl (.inr ⟨{ y with l := l }, b.a, b1, a4, m1, d1, c4, HTK.out, by rw [HYF.out, HYE.out], ?_, ?_⟩)
                · have no := HQ.out.g.own.ne (g := w.heap.size + 1) (.inl (by omega))
                  exact (((((HQ.out.g.own.set no _ _).set no _ _).set no _ _).set no _ _).below ((Below.refl _ _).drew)).base (by omega)
                · exact Below.drew (Below.setCell (Below.setCell (Below.setCell (Below.setCell HQ.out.g.bw (by simp only; omega) _) (by simp only; omega) _) (by simp only; omega) _) (by simp only; omega) _)

end Go.Proofs.YtjljcifpcljlaaaDoor
/- Zones of pages in plain words: the same free pages are the same blocks. No program in sight. -/
namespace Go.Proofs.YtjljcifpcljlaaaDoor
set_option linter.unusedVariables false

/-- a block that is free page by page lies in one free block -/
theorem in_one {f e : Nat} {m : List Bk} (hf : f % 16 = 0) (he : e % 16 = 0) (hm : OkL f e m) : ∀ (o a : Nat), fitsB f e a o → (∀ p, inB a o p → covL m p) → ∃ c ∈ m, c.a ≤ a ∧ a + 2 ^ o ≤ c.fin
  | 0, a, hb, hc => by
    obtain ⟨c, hcm, hp⟩ := hc a ⟨Nat.le_refl _, by simp⟩
    unfold inB at hp
    exact ⟨c, hcm, hp.1, by unfold Bk.fin; simp only [Nat.pow_zero]; omega⟩
  | o + 1, a, hb, hc => by
    obtain ⟨h1, h2, h3⟩ := fits_half he hb
    have hps : 2 ^ (o + 1) = 2 ^ o + 2 ^ o := by rw [Nat.pow_succ]; omega
    obtain ⟨c, hcm, c1, c2⟩ := in_one hf he hm o a h1 (fun p hp => hc p (by unfold inB at *; omega))
    obtain ⟨d, hdm, d1, d2⟩ := in_one hf he hm o (a + 2 ^ o) h2 (fun p hp => hc p (by unfold inB at *; omega))
    have hcf := hm.fit c hcm
    have hdf := hm.fit d hdm
    have ho4 : o + 1 ≤ 4 := hb.1
    have hfit : a % 2 ^ (o + 1) = 0 := hb.2.2.2
    by_cases hco : o + 1 ≤ c.o
    · refine ⟨c, hcm, c1, ?_⟩
      have h4 := hcf.1.2.2.2
      have h5 := hcf.1.1
      unfold Bk.fin at *
      have hdiv : 2 ^ (o + 1) ∣ c.a := Nat.dvd_trans (Nat.pow_dvd_pow 2 hco) (Nat.dvd_of_mod_eq_zero h4)
      have hdiv2 : 2 ^ (o + 1) ∣ 2 ^ c.o := Nat.pow_dvd_pow 2 hco
      obtain ⟨x, hx⟩ := hdiv
      obtain ⟨y, hy⟩ := hdiv2
      obtain ⟨z, hz⟩ := Nat.dvd_of_mod_eq_zero hfit
      rw [hx, hy, ← Nat.mul_add] at c2 ⊢
      rw [hz] at c1 c2 ⊢
      have hpos := pow_pos' o
      have : z < x + y := by
        rcases Nat.lt_or_ge z (x + y) with h | h
        · exact h
        · have := Nat.mul_le_mul_left (2 ^ (o + 1)) h; omega
      have := Nat.mul_le_mul_left (2 ^ (o + 1)) (Nat.succ_le_of_lt this)
      rw [Nat.mul_succ] at this
      exact this
    · exfalso
      have hcoe : c.o = o := by
        have h5 : 2 ^ o ≤ 2 ^ c.o := by unfold Bk.fin at c2; omega
        have := (Nat.pow_le_pow_iff_right (show 1 < 2 by omega)).1 h5
        omega
      have hca : c.a = a := by unfold Bk.fin at c2; rw [hcoe] at c2; omega
      have hne : ¬ (d.a ≤ a) := by
        intro hle
        obtain ⟨i, hi, rfl⟩ := List.getElem_of_mem hcm
        obtain ⟨j, hj, rfl⟩ := List.getElem_of_mem hdm
        have hpos := pow_pos' o
        by_cases hij : i = j
        · subst hij; unfold Bk.fin at *; rw [hcoe, hca] at *; omega
        · have := sep_two hm.sep hi hj hij
          unfold Bk.fin at *; rw [hcoe, hca] at *; omega
      have hda : d.a = a + 2 ^ o ∧ d.o = o := by
        have hdo : d.o ≤ o ∨ o < d.o := by omega
        have h5 : 2 ^ o ≤ 2 ^ d.o := by unfold Bk.fin at d2; omega
        have h6 := (Nat.pow_le_pow_iff_right (show 1 < 2 by omega)).1 h5
        have h7 : d.o = o := by
          rcases hdo with h | h
          · omega
          · exfalso
            have h8 := hdf.1.2.2.2
            obtain ⟨x, hx⟩ := Nat.dvd_trans (Nat.pow_dvd_pow 2 (show o + 1 ≤ d.o by omega)) (Nat.dvd_of_mod_eq_zero h8)
            obtain ⟨z, hz⟩ := Nat.dvd_of_mod_eq_zero hfit
            have hpos := pow_pos' o
            have h9 : z < x := by
              rcases Nat.lt_or_ge z x with h | h
              · exact h
              · have := Nat.mul_le_mul_left (2 ^ (o + 1)) h
                rw [← hx, ← hz] at this
                omega
            have h10 := Nat.mul_le_mul_left (2 ^ (o + 1)) (Nat.succ_le_of_lt h9)
            rw [Nat.mul_succ, ← hx, ← hz] at h10
            omega
        refine ⟨?_, h7⟩
        unfold Bk.fin at d2
        rw [h7] at d2
        omega
      exact hm.nob d hdm c hcm (by omega) (by omega) (by rw [hda.1, hda.2, h3, hca])

def keyB (b : Bk) : Nat × Nat := (b.a, b.o)
theorem same_mem {f e : Nat} {l m : List Bk} (hf : f % 16 = 0) (he : e % 16 = 0) (hl : OkL f e l) (hm : OkL f e m) (hc : ∀ p, covL l p ↔ covL m p) : ∀ b ∈ l, ∃ c ∈ m, keyB c = keyB b := by
  intro b hb
  have hbf := (hl.fit b hb).1
  obtain ⟨c, hcm, c1, c2⟩ := in_one hf he hm b.o b.a hbf (fun p hp => (hc p).1 ⟨b, hb, hp⟩)
  have hcf := (hm.fit c hcm).1
  obtain ⟨d, hd, d1, d2⟩ := in_one hf he hl c.o c.a hcf (fun p hp => (hc p).2 ⟨c, hcm, hp⟩)
  have hpb := pow_pos' b.o
  have hpd := pow_pos' d.o
  refine ⟨c, hcm, ?_⟩
  obtain ⟨i, hi, rfl⟩ := List.getElem_of_mem hb
  obtain ⟨j, hj, rfl⟩ := List.getElem_of_mem hd
  have hij : i = j := by
    by_cases hij : i = j
    · exact hij
    · exfalso
      have := sep_two hl.sep hi hj hij
      unfold Bk.fin at *
      omega
  subst hij
  have ha : c.a = l[i].a := by omega
  unfold Bk.fin at *
  have hpow : 2 ^ c.o = 2 ^ l[i].o := by omega
  have ho : c.o = l[i].o := by
    have h1 := (Nat.pow_le_pow_iff_right (show 1 < 2 by omega)).1 (Nat.le_of_eq hpow)
    have h2 := (Nat.pow_le_pow_iff_right (show 1 < 2 by omega)).1 (Nat.le_of_eq hpow.symm)
    omega
  unfold keyB
  rw [ha, ho]

theorem same_sorted : ∀ (l m : List Bk), Rise l → Rise m → (∀ b ∈ l, ∃ c ∈ m, keyB c = keyB b) → (∀ b ∈ m, ∃ c ∈ l, keyB c = keyB b) → l.map keyB = m.map keyB
  | [], [], _, _, _, _ => rfl
  | [], y :: m, _, _, _, h => by obtain ⟨c, hc, _⟩ := h y (by simp); simp at hc
  | x :: l, [], _, _, h, _ => by obtain ⟨c, hc, _⟩ := h x (by simp); simp at hc
  | x :: l, y :: m, hl, hm, h1, h2 => by
    have hlp := List.pairwise_cons.1 hl
    have hmp := List.pairwise_cons.1 hm
    have hxy : keyB x = keyB y := by
      obtain ⟨c, hc, hcx⟩ := h1 x (by simp)
      obtain ⟨d, hd, hdy⟩ := h2 y (by simp)
      rw [List.mem_cons] at hc hd
      rcases hc with rfl | hc
      · exact hcx.symm
      · rcases hd with rfl | hd
        · exact hdy
        · have g1 := hmp.1 c hc
          have g2 := hlp.1 d hd
          unfold keyB at hcx hdy
          simp only [Prod.mk.injEq] at hcx hdy
          omega
    have hxa : x.a = y.a := by unfold keyB at hxy; simp only [Prod.mk.injEq] at hxy; exact hxy.1
    rw [List.map_cons, List.map_cons, hxy, same_sorted l m hlp.2 hmp.2 (fun b hb => ?_) (fun b hb => ?_)]
    · obtain ⟨c, hc, hcb⟩ := h1 b (by simp [hb])
      rw [List.mem_cons] at hc
      rcases hc with rfl | hc
      · exfalso
        have := hlp.1 b hb
        unfold keyB at hcb
        simp only [Prod.mk.injEq] at hcb
        omega
      · exact ⟨c, hc, hcb⟩
    · obtain ⟨c, hc, hcb⟩ := h2 b (by simp [hb])
      rw [List.mem_cons] at hc
      rcases hc with rfl | hc
      · exfalso
        have := hmp.1 b hb
        unfold keyB at hcb
        simp only [Prod.mk.injEq] at hcb
        omega
      · exact ⟨c, hc, hcb⟩

/-- the same free pages are the same blocks, but for types -/
theorem same_blocks {f e : Nat} {l m : List Bk} (hf : f % 16 = 0) (he : e % 16 = 0) (hl : OkL f e l) (hm : OkL f e m) (hc : ∀ p, covL l p ↔ covL m p) : l.map keyB = m.map keyB :=
  same_sorted l m hl.rise hm.rise (same_mem hf he hl hm hc) (same_mem hf he hm hl (fun p => (hc p).symm))
end Go.Proofs.YtjljcifpcljlaaaDoor
/- How often a page is in a list of blocks. No program in sight. -/
namespace Go.Proofs.YtjljcifpcljlaaaDoor
set_option linter.unusedVariables false

def hit (b : Bk) (p : Nat) : Nat := if b.a ≤ p ∧ p < b.fin then 1 else 0
def cnt : List Bk → Nat → Nat
  | [], _ => 0
  | b :: l, p => hit b p + cnt l p
theorem cnt_append (l m : List Bk) (p : Nat) : cnt (l ++ m) p = cnt l p + cnt m p := by
  induction l with
  | nil => simp [cnt]
  | cons b l ih => rw [List.cons_append, cnt, cnt, ih]; omega
theorem cnt_perm {l m : List Bk} (h : l.Perm m) (p : Nat) : cnt l p = cnt m p := by
  induction h with
  | nil => rfl
  | cons x _ ih => rw [cnt, cnt, ih]
  | swap x y l => rw [cnt, cnt, cnt, cnt]; omega
  | trans _ _ h1 h2 => rw [h1, h2]
theorem hit_one {b : Bk} {p : Nat} : hit b p = 1 ↔ inB b.a b.o p := by
  unfold hit inB Bk.fin
  split <;> simp_all
theorem hit_le (b : Bk) (p : Nat) : hit b p ≤ 1 := by unfold hit; split <;> omega
theorem cnt_pos {l : List Bk} {p : Nat} : 0 < cnt l p ↔ covL l p := by
  induction l with
  | nil => simp [cnt, covL]
  | cons b l ih =>
    rw [cnt]
    constructor
    · intro h
      by_cases hb : hit b p = 1
      · exact ⟨b, by simp, hit_one.1 hb⟩
      · have h1 := hit_le b p
        obtain ⟨c, hc, hp⟩ := ih.1 (by omega)
        exact ⟨c, by simp [hc], hp⟩
    · rintro ⟨c, hc, hp⟩
      rw [List.mem_cons] at hc
      rcases hc with rfl | hc
      · have := hit_one.2 hp; omega
      · have := ih.2 ⟨c, hc, hp⟩; omega
/-- blocks that lie apart have each page once at most -/
theorem cnt_apart {l : List Bk} (hd : l.Pairwise fun b c => apartB b.a b.o c) (p : Nat) : cnt l p ≤ 1 := by
  induction l with
  | nil => simp [cnt]
  | cons b l ih =>
    obtain ⟨h1, h2⟩ := List.pairwise_cons.1 hd
    rw [cnt]
    have h3 := hit_le b p
    have h4 := ih h2
    by_cases hb : hit b p = 1
    · have hz : ¬ 0 < cnt l p := fun h => by
        obtain ⟨c, hc, hp⟩ := cnt_pos.1 h
        exact disj_of_apart (h1 c hc) p (hit_one.1 hb) hp
      omega
    · omega
theorem sep_apart {l : List Bk} (h : l.Pairwise fun x y => x.fin ≤ y.a) : l.Pairwise fun b c => apartB b.a b.o c := h.imp fun {x y} h => by unfold apartB Bk.fin at *; omega
/-- where no page is there twice, two blocks of the list lie apart -/
theorem apart_of_cnt {l : List Bk} (h : ∀ p, cnt l p ≤ 1) {b c : Bk} {l' : List Bk} (hp : l.Perm (b :: c :: l')) : apartB b.a b.o c :=
  apart_of_disj fun p h1 h2 => by
    have h3 := h p
    rw [cnt_perm hp, cnt, cnt, hit_one.2 h1, hit_one.2 h2] at h3
    omega
theorem apart_of_app {l m : List Bk} (h : ∀ p, cnt (l ++ m) p ≤ 1) : ∀ b ∈ l, ∀ c ∈ m, apartB b.a b.o c := fun b hb c hc =>
  apart_of_disj fun p h1 h2 => by
    have h3 := h p
    rw [cnt_append] at h3
    have g1 := cnt_pos.2 (show covL l p from ⟨b, hb, h1⟩)
    have g2 := cnt_pos.2 (show covL m p from ⟨c, hc, h2⟩)
    omega

/-- what Take does to the counts -/
theorem cnt_take {z z' : Zn} {order at_ : Nat} (hz : z.ok) (ht : Taken z order z' at_) (t : Nat) (p : Nat) : cnt z'.l p + hit ⟨at_, order, t⟩ p = cnt z.l p := by
  have h1 := cnt_apart (sep_apart hz.2.sep) p
  have h2 := cnt_apart (sep_apart ht.ok.2.sep) p
  have h3 := ht.cov p
  have h4 := hit_le ⟨at_, order, t⟩ p
  have h5 : hit ⟨at_, order, t⟩ p = 1 ↔ inB at_ order p := hit_one
  have c1 := @cnt_pos z.l p
  have c2 := @cnt_pos z'.l p
  by_cases hp : inB at_ order p
  · have e1 := h5.2 hp
    have e2 : ¬ 0 < cnt z'.l p := fun h => by
      obtain ⟨c, hc, hcp⟩ := c2.1 h
      exact disj_of_apart (ht.apart c hc) p hp hcp
    have e3 := c1.2 (h3.1 (.inr hp))
    omega
  · have e1 : hit ⟨at_, order, t⟩ p = 0 := by
      have : ¬ hit ⟨at_, order, t⟩ p = 1 := fun h => hp (h5.1 h)
      omega
    by_cases hc : covL z.l p
    · have e2 := c1.2 hc
      rcases h3.2 hc with h | h
      · have := c2.2 h; omega
      · exact absurd h hp
    · have e2 : ¬ 0 < cnt z.l p := fun h => hc (c1.1 h)
      have e3 : ¬ 0 < cnt z'.l p := fun h => hc (h3.1 (.inl (c2.1 h)))
      omega
/-- what Back does to the counts -/
theorem cnt_back {z : Zn} (hz : z.ok) {a o : Nat} (hb : fitsB z.f z.e a o) (hd : ∀ x ∈ z.l, apartB a o x) (t p : Nat) : cnt (z.back a o).l p = cnt z.l p + hit ⟨a, o, t⟩ p := by
  obtain ⟨g1, g2⟩ := Zn.back_ok hz hb hd
  have h1 := cnt_apart (sep_apart hz.2.sep) p
  have h2 := cnt_apart (sep_apart g1.2.sep) p
  have h3 := g2 p
  have h4 := hit_le ⟨a, o, t⟩ p
  have h5 : hit ⟨a, o, t⟩ p = 1 ↔ inB a o p := hit_one
  have c1 := @cnt_pos z.l p
  have c2 := @cnt_pos (z.back a o).l p
  by_cases hp : inB a o p
  · have e1 := h5.2 hp
    have e2 : ¬ 0 < cnt z.l p := fun h => by
      obtain ⟨c, hc, hcp⟩ := c1.1 h
      exact disj_of_apart (hd c hc) p hp hcp
    have e3 := c2.2 (h3.2 (.inr hp))
    omega
  · have e1 : hit ⟨a, o, t⟩ p = 0 := by
      have : ¬ hit ⟨a, o, t⟩ p = 1 := fun h => hp (h5.1 h)
      omega
    by_cases hc : covL z.l p
    · have e2 := c1.2 hc
      have e3 := c2.2 (h3.2 (.inl hc))
      omega
    · have e2 : ¬ 0 < cnt z.l p := fun h => hc (c1.1 h)
      have e3 : ¬ 0 < cnt (z.back a o).l p := fun h => by
        rcases h3.1 (c2.1 h) with h' | h'
        · exact hc h'
        · exact hp h'
      omega

/-! ## The sum of pages -/
/-- pages of blocks, below N, one by one -/
def sumTo (f : Nat → Nat) : Nat → Nat
  | 0 => 0
  | n + 1 => sumTo f n + f n
theorem sumTo_congr {f g : Nat → Nat} : ∀ {n : Nat}, (∀ p, p < n → f p = g p) → sumTo f n = sumTo g n
  | 0, _ => rfl
  | n + 1, h => by rw [sumTo, sumTo, sumTo_congr (fun p hp => h p (by omega)), h n (by omega)]
theorem sumTo_add (f g : Nat → Nat) : ∀ n, sumTo (fun p => f p + g p) n = sumTo f n + sumTo g n
  | 0 => rfl
  | n + 1 => by rw [sumTo, sumTo, sumTo, sumTo_add f g n]; omega
theorem sumTo_hit (b : Bk) : ∀ n, sumTo (hit b) n = min n b.fin - min n b.a
  | 0 => by simp [sumTo]
  | n + 1 => by
    rw [sumTo, sumTo_hit b n]
    unfold hit
    have h1 : b.a < b.fin := by unfold Bk.fin; have := pow_pos' b.o; omega
    split <;> omega
def szB : List Bk → Nat
  | [] => 0
  | b :: l => 2 ^ b.o + szB l
theorem sumTo_cnt {l : List Bk} {N : Nat} (h : ∀ b ∈ l, b.fin ≤ N) : sumTo (cnt l) N = szB l := by
  induction l with
  | nil =>
    have : ∀ n, sumTo (cnt []) n = 0 := fun n => by
      induction n with
      | zero => rfl
      | succ n ih => rw [sumTo, ih]; rfl
    rw [this]; rfl
  | cons b l ih =>
    have h1 : cnt (b :: l) = fun p => hit b p + cnt l p := rfl
    rw [h1, sumTo_add, sumTo_hit, ih (fun c hc => h c (by simp [hc])), szB]
    have h2 := h b (by simp)
    unfold Bk.fin at *
    generalize 2 ^ b.o = q at *
    rw [Nat.min_eq_right h2, Nat.min_eq_right (by omega)]
    omega
theorem szB_append (l m : List Bk) : szB (l ++ m) = szB l + szB m := by
  induction l with
  | nil => simp [szB]
  | cons b l ih => rw [List.cons_append, szB, szB, ih]; omega
end Go.Proofs.YtjljcifpcljlaaaDoor
/- Heaps of pages in plain words: zones, lists, what is given away. No program in sight. -/
namespace Go.Proofs.YtjljcifpcljlaaaDoor
set_option linter.unusedVariables false

/-- pages that a processor keeps, of a zone and a type -/
structure Ls where
  c : Nat
  z : Nat
  t : Nat
  p : List Nat
deriving DecidableEq
def Ls.key (l : Ls) : Nat := (l.c * 2 + l.z) * 3 + l.t
def pgs (l : List Nat) : List Bk := l.map fun p => ⟨p, 0, 0⟩
def lsB : List Ls → List Bk
  | [] => []
  | l :: r => pgs l.p ++ lsB r
structure Hp where
  z0 : Zn
  z1 : Zn
  m0 : Nat
  m1 : Nat
  cpus : Nat
  ls : List Ls
  live : List Bk
deriving DecidableEq
def Hp.all (h : Hp) : List Bk := h.z0.l ++ (h.z1.l ++ (lsB h.ls ++ h.live))
def okLs (cpus split : Nat) (l : Ls) : Prop := l.c < cpus ∧ l.z < 2 ∧ l.t < 3 ∧ 0 < l.p.length ∧ l.p.length ≤ 8 ∧ ∀ p ∈ l.p, p < 256 ∧ (p < split ↔ l.z = 0)

/-- a heap that may be -/
structure HOk (h : Hp) : Prop where
  o0 : h.z0.ok
  o1 : h.z1.ok
  f0 : h.z0.f = 0
  e0 : h.z0.e = h.z1.f
  e1 : h.z1.e = 256
  m0 : h.m0 ≤ 256
  m1 : h.m1 ≤ 256
  cp : 1 ≤ h.cpus ∧ h.cpus ≤ 4
  lk : h.ls.Pairwise fun a b => a.key < b.key
  lr : ∀ l ∈ h.ls, okLs h.cpus h.z0.e l
  lv : ∀ b ∈ h.live, fitsB 0 256 b.a b.o ∧ b.t < 3
  vs : h.live.Pairwise fun x y => x.a < y.a
  one : ∀ p, cnt h.all p ≤ 1

def Hp.zone (h : Hp) (i : Nat) : Zn := if i = 0 then h.z0 else h.z1
def Hp.setZ (h : Hp) (i : Nat) (z : Zn) : Hp := if i = 0 then { h with z0 := z } else { h with z1 := z }
def Hp.zof (h : Hp) (p : Nat) : Nat := if p < h.z0.e then 0 else 1
def Hp.min (h : Hp) (i : Nat) : Nat := if i = 0 then h.m0 else h.m1
/-- a block goes to its zone -/
def Hp.backB (h : Hp) (a o : Nat) : Hp := h.setZ (h.zof a) ((h.zone (h.zof a)).back a o)
/-- so many pages of a zone must stay free -/
def Hp.held (h : Hp) (i : Nat) (urgent low : Bool) : Nat := (if urgent then h.min i / 2 else h.min i) + (if i = 0 ∧ low = false then (h.z1.e - h.z1.f) / 32 else 0)
def Hp.takeZ (h : Hp) (i order t hd : Nat) : Option (Hp × Nat) := if szB (h.zone i).l < hd + 2 ^ order then none else match (h.zone i).take order t with
  | some (z', a) => some (h.setZ i z', a)
  | none => none
def lbL (ls : List Ls) (k : Nat) : Nat := (ls.takeWhile fun l => decide (l.key < k)).length
def hasL (ls : List Ls) (k : Nat) : Bool := match ls[lbL ls k]? with
  | some l => decide (l.key = k)
  | none => false
def pushL (ls : List Ls) (l : Ls) (p : Nat) : List Ls := match ls[lbL ls l.key]? with
  | some x => if x.key = l.key then ls.set (lbL ls l.key) { x with p := x.p ++ [p] } else ls.take (lbL ls l.key) ++ { l with p := [p] } :: ls.drop (lbL ls l.key)
  | none => ls.take (lbL ls l.key) ++ { l with p := [p] } :: ls.drop (lbL ls l.key)
/-- the list is filled: n times, as long as there is enough -/
def Hp.fill (h : Hp) (l : Ls) (hd : Nat) : Nat → Hp
  | 0 => h
  | n + 1 => match h.takeZ l.z 0 l.t hd with
    | some (h', q) => Hp.fill { h' with ls := pushL h'.ls l q } l hd n
    | none => h
/-- a single page: from a list; an empty one is filled first -/
def Hp.single (h : Hp) (l : Ls) (hd : Nat) : Option (Hp × Nat) := match h.ls[lbL h.ls l.key]? with
  | some x => if x.key = l.key then some ({ h with ls := if x.p.length = 1 then h.ls.eraseIdx (lbL h.ls l.key) else h.ls.set (lbL h.ls l.key) { x with p := x.p.dropLast } }, x.p.getLastD 0) else (h.takeZ l.z 0 l.t hd).map fun r => (r.1.fill l hd 3, r.2)
  | none => (h.takeZ l.z 0 l.t hd).map fun r => (r.1.fill l hd 3, r.2)
def Hp.ask (h : Hp) (cpu i order t : Nat) (urgent low : Bool) : Option (Hp × Nat) := if order = 0 then h.single ⟨cpu, i, t, []⟩ (h.held i urgent low) else h.takeZ i order t (h.held i urgent low)
def Hp.attempt (h : Hp) (cpu order t : Nat) (urgent low : Bool) : Option (Hp × Nat) :=
  if low then h.ask cpu 0 order t urgent low else match h.ask cpu 1 order t urgent low with
    | some r => some r
    | none => h.ask cpu 0 order t urgent low
def backAll (h : Hp) : List Nat → Hp
  | [] => h
  | p :: l => backAll (h.backB p 0) l
def drainL (h : Hp) : List Ls → Hp
  | [] => h
  | l :: r => drainL (backAll h l.p) r
def Hp.drain (h : Hp) : Hp := { drainL h h.ls with ls := [] }
def Hp.alloc (h : Hp) (cpu order t : Nat) (urgent low : Bool) : Option (Hp × Nat) :=
  match (match h.attempt cpu order t urgent low with
    | some r => some r
    | none => h.drain.attempt cpu order t urgent low) with
  | some (h', a) => some ({ h' with live := putIn h'.live ⟨a, order, t⟩ }, a)
  | none => none
/-- a single page goes to a list; too many go back -/
def Hp.give (h : Hp) (cpu p : Nat) : Hp :=
  let l : Ls := ⟨cpu, h.zof p, (h.zone (h.zof p)).y.getD ((p - (h.zone (h.zof p)).f) / 8) 0, []⟩
  let h1 := { h with ls := pushL h.ls l p }
  match h1.ls[lbL h1.ls l.key]? with
  | some x => if 8 < x.p.length then { backAll h1 (x.p.take 4) with ls := h1.ls.set (lbL h1.ls l.key) { x with p := x.p.drop 4 } } else h1
  | none => h1
def Hp.freeB (h : Hp) (cpu i : Nat) (b : Bk) : Hp :=
  let h1 := { h with live := h.live.eraseIdx i }
  if 0 < b.o then h1.backB b.a b.o else h1.give cpu b.a
end Go.Proofs.YtjljcifpcljlaaaDoor
/- Heaps of pages in plain words: what Back and Take do. No program in sight. -/
namespace Go.Proofs.YtjljcifpcljlaaaDoor
set_option linter.unusedVariables false

theorem cnt_all (h : Hp) (p : Nat) : cnt h.all p = cnt h.z0.l p + cnt h.z1.l p + cnt (lsB h.ls) p + cnt h.live p := by
  unfold Hp.all
  rw [cnt_append, cnt_append, cnt_append]
  omega
theorem zone_cnt (h : Hp) (i p : Nat) : cnt (h.zone i).l p ≤ cnt h.all p := by
  rw [cnt_all]
  unfold Hp.zone
  split <;> omega
theorem all_setZ (h : Hp) (i : Nat) (z : Zn) (p : Nat) : cnt (h.setZ i z).all p + cnt (h.zone i).l p = cnt h.all p + cnt z.l p := by
  rw [cnt_all, cnt_all]
  unfold Hp.setZ Hp.zone
  split <;> simp only <;> omega
theorem HOk.zone {h : Hp} (hk : HOk h) (i : Nat) : (h.zone i).ok := by
  unfold Hp.zone
  split
  · exact hk.o0
  · exact hk.o1
theorem HOk.setZ {h : Hp} (hk : HOk h) (i : Nat) {z : Zn} (hz : z.ok) (hf : z.f = (h.zone i).f) (he : z.e = (h.zone i).e) (h1 : ∀ p, cnt (h.setZ i z).all p ≤ 1) : HOk (h.setZ i z) := by
  by_cases hi : i = 0
  · subst hi
    have e : h.setZ 0 z = { h with z0 := z } := if_pos rfl
    have e2 : h.zone 0 = h.z0 := if_pos rfl
    rw [e2] at hf he
    rw [e] at h1 ⊢
    exact ⟨hz, hk.o1, hf.trans hk.f0, he.trans hk.e0, hk.e1, hk.m0, hk.m1, hk.cp, hk.lk, fun l hl => by simp only; rw [he]; exact hk.lr l hl, hk.lv, hk.vs, h1⟩
  · have e : h.setZ i z = { h with z1 := z } := if_neg hi
    have e2 : h.zone i = h.z1 := if_neg hi
    rw [e2] at hf he
    rw [e] at h1 ⊢
    exact ⟨hk.o0, hz, hk.f0, hk.e0.trans hf.symm, he.trans hk.e1, hk.m0, hk.m1, hk.cp, hk.lk, hk.lr, hk.lv, hk.vs, h1⟩
/-- what a change of a zone's blocks leaves -/
structure Same (h g : Hp) : Prop where
  m0 : g.m0 = h.m0
  m1 : g.m1 = h.m1
  cpus : g.cpus = h.cpus
  split : g.z0.e = h.z0.e
theorem Same.refl (h : Hp) : Same h h := ⟨rfl, rfl, rfl, rfl⟩
theorem Same.trans {a b c : Hp} (h1 : Same a b) (h2 : Same b c) : Same a c := ⟨h2.m0.trans h1.m0, h2.m1.trans h1.m1, h2.cpus.trans h1.cpus, h2.split.trans h1.split⟩
theorem same_setZ {h : Hp} {i : Nat} {z : Zn} (he : z.e = (h.zone i).e) : Same h (h.setZ i z) ∧ (h.setZ i z).ls = h.ls ∧ (h.setZ i z).live = h.live := by
  unfold Hp.setZ
  unfold Hp.zone at he
  split
  · rename_i hi
    rw [if_pos hi] at he
    exact ⟨⟨rfl, rfl, rfl, he⟩, rfl, rfl⟩
  · exact ⟨⟨rfl, rfl, rfl, rfl⟩, rfl, rfl⟩
/-- a block that fits lies in the zone of its place -/
theorem HOk.fits {h : Hp} (hk : HOk h) {a o : Nat} (hb : fitsB 0 256 a o) : fitsB (h.zone (h.zof a)).f (h.zone (h.zof a)).e a o := by
  obtain ⟨h1, h2, h3, h4⟩ := hb
  unfold Hp.zof
  by_cases hlt : a < h.z0.e
  · rw [if_pos hlt]
    have e : h.zone 0 = h.z0 := if_pos rfl
    rw [e, hk.f0]
    exact ⟨h1, by omega, hlt, h4⟩
  · rw [if_neg hlt]
    have e : h.zone 1 = h.z1 := if_neg (by omega)
    rw [e, hk.e1, ← hk.e0]
    exact ⟨h1, by omega, h3, h4⟩
theorem HOk.backB {h : Hp} (hk : HOk h) {a o : Nat} (hb : fitsB 0 256 a o) (hd : ∀ p, cnt h.all p + hit ⟨a, o, 0⟩ p ≤ 1) :
    HOk (h.backB a o) ∧ (∀ p, cnt (h.backB a o).all p = cnt h.all p + hit ⟨a, o, 0⟩ p) ∧ Same h (h.backB a o) ∧ (h.backB a o).ls = h.ls ∧ (h.backB a o).live = h.live := by
  have hz := hk.zone (h.zof a)
  have hfit := hk.fits hb
  have hap : ∀ x ∈ (h.zone (h.zof a)).l, apartB a o x := fun x hx => apart_of_disj fun p h1 h2 => by
    have g1 := hd p
    have g2 := zone_cnt h (h.zof a) p
    have g3 := cnt_pos.2 (show covL (h.zone (h.zof a)).l p from ⟨x, hx, h2⟩)
    have g4 : hit ⟨a, o, 0⟩ p = 1 := hit_one.2 h1
    omega
  have hc : ∀ p, cnt (h.backB a o).all p = cnt h.all p + hit ⟨a, o, 0⟩ p := fun p => by
    have g1 := all_setZ h (h.zof a) ((h.zone (h.zof a)).back a o) p
    have g2 := cnt_back hz hfit hap 0 p
    unfold Hp.backB
    omega
  have hs := same_setZ (h := h) (i := h.zof a) (z := (h.zone (h.zof a)).back a o) rfl
  exact ⟨hk.setZ _ (Zn.back_ok hz hfit hap).1 rfl rfl (fun p => by have := hc p; unfold Hp.backB at this; rw [this]; exact hd p), hc, hs.1, hs.2.1, hs.2.2⟩
theorem szB_le {z : Zn} (hz : z.ok) : szB z.l ≤ 256 := by
  have h1 : ∀ b ∈ z.l, b.fin ≤ 256 := fun b hb => by
    have h2 := (hz.2.fit b hb).1
    have h3 := fits_end hz.1.e16 h2
    have h4 := hz.1.e2
    unfold Bk.fin
    omega
  rw [← sumTo_cnt h1]
  have h5 : ∀ n, sumTo (cnt z.l) n ≤ n := fun n => by
    induction n with
    | zero => exact Nat.le_refl _
    | succ n ih =>
      have := cnt_apart (sep_apart hz.2.sep) n
      rw [sumTo]
      omega
  exact h5 256
/-- what a take gives -/
structure Took (h : Hp) (order : Nat) (h' : Hp) (a : Nat) : Prop where
  ok : HOk h'
  fit : fitsB 0 256 a order
  c : ∀ t p, cnt h'.all p + hit ⟨a, order, t⟩ p = cnt h.all p
  same : Same h h'
  live : h'.live = h.live
theorem HOk.takeZ {h h' : Hp} (hk : HOk h) {i order t hd a : Nat} (ho : order ≤ 4) (ht : t < 3) (hi : i < 2) (he : h.takeZ i order t hd = some (h', a)) :
    Took h order h' a ∧ h'.ls = h.ls ∧ (a < h.z0.e ↔ i = 0) := by
  unfold Hp.takeZ at he
  split at he
  · cases he
  · cases hz : (h.zone i).take order t with
    | none => rw [hz] at he; cases he
    | some r =>
      obtain ⟨z', a'⟩ := r
      rw [hz] at he
      simp only [Option.some.injEq, Prod.mk.injEq] at he
      obtain ⟨rfl, rfl⟩ := he
      have hzok := hk.zone i
      have hex : ∃ b ∈ (h.zone i).l, order ≤ b.o := Classical.byContradiction fun hn => by
        rw [Zn.take_none hn] at hz; cases hz
      obtain ⟨z2, a2, h1, hT⟩ := Zn.take_some hzok ho ht hex
      rw [hz] at h1
      simp only [Option.some.injEq, Prod.mk.injEq] at h1
      obtain ⟨rfl, rfl⟩ := h1
      have hc : ∀ t p, cnt (h.setZ i z').all p + hit ⟨a', order, t⟩ p = cnt h.all p := fun t p => by
        have g1 := all_setZ h i z' p
        have g2 := cnt_take hzok hT t p
        omega
      have hs := same_setZ (h := h) (i := i) (z := z') hT.e
      have hfit := hT.fit
      have hbound : fitsB 0 256 a' order ∧ (a' < h.z0.e ↔ i = 0) := by
        obtain ⟨g1, g2, g3, g4⟩ := hfit
        unfold Hp.zone at g2 g3
        by_cases hi0 : i = 0
        · rw [if_pos hi0] at g2 g3
          have := hk.o0.1.e2
          exact ⟨⟨g1, by omega, by omega, g4⟩, fun _ => hi0, fun _ => g3⟩
        · rw [if_neg hi0] at g2 g3
          have := hk.e1
          have := hk.e0
          exact ⟨⟨g1, by omega, by omega, g4⟩, fun h => by omega, fun h => absurd h hi0⟩
      exact ⟨⟨hk.setZ i hT.ok hT.f hT.e (fun p => by have := hc 0 p; have := hk.one p; omega), hbound.1, hc, hs.1, hs.2.2⟩, hs.2.1, hbound.2⟩
end Go.Proofs.YtjljcifpcljlaaaDoor
/- Heaps of pages in plain words: lists of single pages. No program in sight. -/
namespace Go.Proofs.YtjljcifpcljlaaaDoor
set_option linter.unusedVariables false

theorem lsB_append (l m : List Ls) : lsB (l ++ m) = lsB l ++ lsB m := by
  induction l with
  | nil => rfl
  | cons x l ih => rw [List.cons_append, lsB, lsB, ih, List.append_assoc]
theorem cnt_pgs_append (l m : List Nat) (q : Nat) : cnt (pgs (l ++ m)) q = cnt (pgs l) q + cnt (pgs m) q := by
  unfold pgs
  rw [List.map_append, cnt_append]
theorem cnt_pgs_one (p q : Nat) : cnt (pgs [p]) q = hit ⟨p, 0, 0⟩ q := rfl
theorem cnt_lsB_app (l m : List Ls) (q : Nat) : cnt (lsB (l ++ m)) q = cnt (lsB l) q + cnt (lsB m) q := by rw [lsB_append, cnt_append]
theorem cnt_lsB_cons (x : Ls) (l : List Ls) (q : Nat) : cnt (lsB (x :: l)) q = cnt (pgs x.p) q + cnt (lsB l) q := by rw [lsB, cnt_append]
theorem split_at {l : List Ls} {i : Nat} (hi : i < l.length) : l = l.take i ++ l[i] :: l.drop (i + 1) := by
  rw [← List.drop_eq_getElem_cons hi, List.take_append_drop]
theorem cnt_lsB_set {l : List Ls} {i : Nat} (hi : i < l.length) (x : Ls) (q : Nat) : cnt (lsB (l.set i x)) q + cnt (pgs l[i].p) q = cnt (lsB l) q + cnt (pgs x.p) q := by
  have h1 : l.set i x = l.take i ++ x :: l.drop (i + 1) := by rw [List.set_eq_take_append_cons_drop, if_pos hi]
  conv => rhs; rw [split_at hi]
  rw [h1, cnt_lsB_app, cnt_lsB_app, cnt_lsB_cons, cnt_lsB_cons]
  omega
theorem cnt_lsB_erase {l : List Ls} {i : Nat} (hi : i < l.length) (q : Nat) : cnt (lsB (l.eraseIdx i)) q + cnt (pgs l[i].p) q = cnt (lsB l) q := by
  conv => rhs; rw [split_at hi]
  rw [List.eraseIdx_eq_take_drop_succ, cnt_lsB_app, cnt_lsB_app, cnt_lsB_cons]
  omega
theorem cnt_lsB_ins (l : List Ls) (i : Nat) (x : Ls) (q : Nat) : cnt (lsB (l.take i ++ x :: l.drop i)) q = cnt (lsB l) q + cnt (pgs x.p) q := by
  conv => rhs; rw [← List.take_append_drop i l]
  rw [cnt_lsB_app, cnt_lsB_app, cnt_lsB_cons]
  omega
theorem cnt_push (ls : List Ls) (l : Ls) (p q : Nat) : cnt (lsB (pushL ls l p)) q = cnt (lsB ls) q + hit ⟨p, 0, 0⟩ q := by
  unfold pushL
  split
  · rename_i x hx
    obtain ⟨hi, hxi⟩ := List.getElem?_eq_some_iff.1 hx
    split
    · have h := cnt_lsB_set hi { x with p := x.p ++ [p] } q
      rw [hxi] at h
      simp only [cnt_pgs_append, cnt_pgs_one] at h
      omega
    · rw [cnt_lsB_ins]
      rfl
  · rw [cnt_lsB_ins]
    rfl

/-! ## Order -/
def RiseL (ls : List Ls) : Prop := ls.Pairwise fun a b => a.key < b.key
theorem lbL_le (ls : List Ls) (k : Nat) : lbL ls k ≤ ls.length := by
  unfold lbL
  exact (List.takeWhile_prefix _).length_le
theorem lbL_below {ls : List Ls} {k : Nat} : ∀ x ∈ ls.take (lbL ls k), x.key < k := by
  intro x hx
  unfold lbL at hx
  rw [take_tw] at hx
  exact of_decide_eq_true (tw_mem (p := fun l : Ls => decide (l.key < k)) hx)
theorem lbL_above {ls : List Ls} (h : RiseL ls) {k : Nat} : ∀ x ∈ ls.drop (lbL ls k), k ≤ x.key := by
  intro x hx
  unfold lbL at hx
  rw [drop_tw] at hx
  induction ls with
  | nil => simp at hx
  | cons y ls ih =>
    obtain ⟨h1, h2⟩ := List.pairwise_cons.1 h
    by_cases hy : y.key < k
    · rw [List.dropWhile_cons_of_pos (by simpa using hy)] at hx
      exact ih h2 hx
    · rw [List.dropWhile_cons_of_neg (by simpa using hy), List.mem_cons] at hx
      rcases hx with rfl | hx
      · omega
      · have := h1 x hx; omega
theorem rise_set {ls : List Ls} (h : RiseL ls) {i : Nat} (hi : i < ls.length) {x : Ls} (hx : x.key = ls[i].key) : RiseL (ls.set i x) := by
  unfold RiseL at *
  rw [List.pairwise_iff_getElem] at *
  intro a b ha hb hab
  rw [List.length_set] at ha hb
  rw [List.getElem_set, List.getElem_set]
  have h1 := h a b ha hb hab
  by_cases e1 : i = a
  · subst e1
    rw [if_pos rfl, if_neg (by omega), hx]
    exact h1
  · rw [if_neg e1]
    by_cases e2 : i = b
    · subst e2
      rw [if_pos rfl, hx]
      exact h1
    · rw [if_neg e2]
      exact h1
theorem rise_ins {ls : List Ls} (h : RiseL ls) {x : Ls} (hn : ∀ y ∈ ls, y.key ≠ x.key) : RiseL (ls.take (lbL ls x.key) ++ x :: ls.drop (lbL ls x.key)) := by
  unfold RiseL
  rw [List.pairwise_append]
  refine ⟨h.sublist (List.take_sublist _ _), List.pairwise_cons.2 ⟨fun y hy => ?_, h.sublist (List.drop_sublist _ _)⟩, fun a ha b hb => ?_⟩
  · have h1 := lbL_above h y hy
    have h2 := hn y (List.mem_of_mem_drop hy)
    omega
  · have h1 := lbL_below a ha
    rw [List.mem_cons] at hb
    rcases hb with rfl | hb
    · exact h1
    · have h2 := lbL_above h b hb
      omega
/-- the list of a key stands where it would stand -/
theorem lbL_hit {ls : List Ls} (h : RiseL ls) {x : Ls} (hx : x ∈ ls) : ls[lbL ls x.key]? = some x := by
  have hm : x ∈ ls.drop (lbL ls x.key) := by
    have := hx
    rw [← List.take_append_drop (lbL ls x.key) ls, List.mem_append] at this
    rcases this with h1 | h1
    · have := lbL_below x h1; omega
    · exact h1
  cases hd : ls.drop (lbL ls x.key) with
  | nil => rw [hd] at hm; simp at hm
  | cons y r =>
    have hy : ls[lbL ls x.key]? = some y := by
      have := congrArg (·[0]?) hd
      simpa [List.getElem?_drop] using this
    rw [hd, List.mem_cons] at hm
    rcases hm with rfl | hm
    · exact hy
    · have h1 : (ls.drop (lbL ls x.key)).Pairwise fun a b => a.key < b.key := h.sublist (List.drop_sublist _ _)
      rw [hd] at h1
      have h2 := (List.pairwise_cons.1 h1).1 x hm
      have h3 := lbL_above h (k := x.key) y (by rw [hd]; simp)
      omega
/-- none of a key: none stands there -/
theorem lbL_miss {ls : List Ls} (h : RiseL ls) {k : Nat} (hm : ∀ y, ls[lbL ls k]? = some y → y.key ≠ k) : ∀ y ∈ ls, y.key ≠ k := by
  intro y hy e
  subst e
  exact hm y (lbL_hit h hy) rfl
theorem key_inj {a b : Ls} (ha : a.z < 2 ∧ a.t < 3) (hb : b.z < 2 ∧ b.t < 3) (h : a.key = b.key) : a.c = b.c ∧ a.z = b.z ∧ a.t = b.t := by
  unfold Ls.key at h
  omega

/-- pages of a list, with another bound on how many there are -/
def okLsN (N cpus split : Nat) (l : Ls) : Prop := l.c < cpus ∧ l.z < 2 ∧ l.t < 3 ∧ 0 < l.p.length ∧ l.p.length ≤ N ∧ ∀ p ∈ l.p, p < 256 ∧ (p < split ↔ l.z = 0)
theorem okLs_iff (cpus split : Nat) (l : Ls) : okLs cpus split l ↔ okLsN 8 cpus split l := Iff.rfl
theorem push_rise {ls : List Ls} (h : RiseL ls) (l : Ls) (p : Nat) : RiseL (pushL ls l p) := by
  unfold pushL
  split
  · rename_i x hx
    obtain ⟨hi, hxi⟩ := List.getElem?_eq_some_iff.1 hx
    split
    · exact rise_set h hi (by rw [hxi]; rfl)
    · rename_i hne
      exact rise_ins (x := { l with p := [p] }) h (lbL_miss h fun y hy => by
        change ls[lbL ls l.key]? = some y at hy
        rw [hx] at hy
        obtain rfl := Option.some.inj hy
        exact hne)
  · rename_i hx
    exact rise_ins (x := { l with p := [p] }) h (lbL_miss h fun y hy => by
      change ls[lbL ls l.key]? = some y at hy
      rw [hx] at hy
      cases hy)
theorem push_ok {ls : List Ls} {N M cpus split : Nat} (h : ∀ x ∈ ls, okLsN N cpus split x) {l : Ls} {p : Nat} (hl : l.c < cpus ∧ l.z < 2 ∧ l.t < 3) (hp : p < 256 ∧ (p < split ↔ l.z = 0)) (hNM : N ≤ M) (hM : 1 ≤ M) (hx : ∀ x ∈ ls, x.key = l.key → x.p.length + 1 ≤ M) : ∀ x ∈ pushL ls l p, okLsN M cpus split x := by
  have up : ∀ x ∈ ls, okLsN M cpus split x := fun x hx => by
    obtain ⟨h1, h2, h3, h4, h5, h6⟩ := h x hx
    exact ⟨h1, h2, h3, h4, by omega, h6⟩
  have new : okLsN M cpus split { l with p := [p] } := ⟨hl.1, hl.2.1, hl.2.2, by simp, by simpa using hM, fun q hq => by
    obtain rfl : q = p := by simpa using hq
    exact hp⟩
  intro y hy
  unfold pushL at hy
  split at hy
  · rename_i x hxe
    obtain ⟨hi, hxi⟩ := List.getElem?_eq_some_iff.1 hxe
    have hxm : x ∈ ls := by rw [← hxi]; exact List.getElem_mem hi
    split at hy
    · rename_i hk
      rcases List.mem_or_eq_of_mem_set hy with hy | rfl
      · exact up y hy
      · obtain ⟨h1, h2, h3, h4, h5, h6⟩ := h x hxm
        have hkk := key_inj ⟨h2, h3⟩ ⟨hl.2.1, hl.2.2⟩ hk
        refine ⟨h1, h2, h3, by simp, by have := hx x hxm hk; simpa using this, fun q hq => ?_⟩
        simp only [List.mem_append, List.mem_singleton] at hq
        rcases hq with hq | rfl
        · exact h6 q hq
        · exact ⟨hp.1, by rw [hkk.2.1]; exact hp.2⟩
    · rw [List.mem_append, List.mem_cons] at hy
      rcases hy with hy | rfl | hy
      · exact up y (List.mem_of_mem_take hy)
      · exact new
      · exact up y (List.mem_of_mem_drop hy)
  · rw [List.mem_append, List.mem_cons] at hy
    rcases hy with hy | rfl | hy
    · exact up y (List.mem_of_mem_take hy)
    · exact new
    · exact up y (List.mem_of_mem_drop hy)
end Go.Proofs.YtjljcifpcljlaaaDoor
/- Heaps of pages in plain words: single pages, filling, draining. No program in sight. -/
namespace Go.Proofs.YtjljcifpcljlaaaDoor
set_option linter.unusedVariables false

/-- a page comes to a list: what was in hand is there -/
theorem HOk.push {h : Hp} (hk : HOk h) {l : Ls} {p : Nat} (hl : l.c < h.cpus ∧ l.z < 2 ∧ l.t < 3) (hp : p < 256 ∧ (p < h.z0.e ↔ l.z = 0)) (h8 : ∀ x ∈ h.ls, x.key = l.key → x.p.length + 1 ≤ 8) (hd : ∀ q, cnt h.all q + hit ⟨p, 0, 0⟩ q ≤ 1) :
    HOk { h with ls := pushL h.ls l p } ∧ ∀ q, cnt ({ h with ls := pushL h.ls l p } : Hp).all q = cnt h.all q + hit ⟨p, 0, 0⟩ q := by
  have hc : ∀ q, cnt ({ h with ls := pushL h.ls l p } : Hp).all q = cnt h.all q + hit ⟨p, 0, 0⟩ q := fun q => by
    rw [cnt_all, cnt_all]
    simp only
    rw [cnt_push]
    omega
  exact ⟨⟨hk.o0, hk.o1, hk.f0, hk.e0, hk.e1, hk.m0, hk.m1, hk.cp, push_rise hk.lk l p, push_ok (N := 8) (M := 8) hk.lr hl hp (Nat.le_refl _) (by omega) h8, hk.lv, hk.vs, fun q => by rw [hc]; exact hd q⟩, hc⟩

/-- how long the list of a key is -/
def lenL (ls : List Ls) (k : Nat) : Nat := match ls.find? fun x => decide (x.key = k) with
  | some x => x.p.length
  | none => 0
theorem lenL_mem {ls : List Ls} (h : RiseL ls) {x : Ls} (hx : x ∈ ls) : lenL ls x.key = x.p.length := by
  unfold lenL
  have : ls.find? (fun y => decide (y.key = x.key)) = some x := by
    induction ls with
    | nil => simp at hx
    | cons y ls ih =>
      obtain ⟨h1, h2⟩ := List.pairwise_cons.1 h
      rw [List.mem_cons] at hx
      rcases hx with rfl | hx
      · rw [List.find?_cons_of_pos (by simp)]
      · rw [List.find?_cons_of_neg (by have := h1 x hx; simp; omega)]
        exact ih h2 hx
  rw [this]
theorem push_mem {ls : List Ls} {l : Ls} {p : Nat} (h : RiseL ls) : ∀ x ∈ pushL ls l p, x.key = l.key → x.p.length = lenL ls l.key + 1 := by
  intro x hx hkey
  have hr := push_rise h l p
  unfold pushL at hx hr
  split at hx
  · rename_i y hy
    obtain ⟨hi, hyi⟩ := List.getElem?_eq_some_iff.1 hy
    have hym : y ∈ ls := by rw [← hyi]; exact List.getElem_mem hi
    by_cases hk : y.key = l.key
    · rw [if_pos hk] at hx
      have hl := lenL_mem h hym
      rw [hk] at hl
      rcases List.mem_or_eq_of_mem_set hx with hm | rfl
      · obtain ⟨j, hj, rfl⟩ := List.getElem_of_mem hx
        rw [List.length_set] at hj
        rw [List.getElem_set] at hkey ⊢
        by_cases he : lbL ls l.key = j
        · rw [if_pos he] at hkey ⊢
          simp [hl]
        · rw [if_neg he] at hkey
          exfalso
          rcases Nat.lt_or_gt_of_ne he with hlt | hgt
          · have := List.pairwise_iff_getElem.1 h _ _ hi hj hlt
            rw [hyi, hk, hkey] at this
            omega
          · have := List.pairwise_iff_getElem.1 h _ _ hj hi hgt
            rw [hyi, hk, hkey] at this
            omega
      · simp [hl]
    · rw [if_neg hk] at hx
      have hmiss := lbL_miss h (k := l.key) fun w hw => by rw [hy] at hw; obtain rfl := Option.some.inj hw; exact hk
      have hz : lenL ls l.key = 0 := by
        unfold lenL
        rw [List.find?_eq_none.2 (fun w hw => by simpa using hmiss w hw)]
      rw [List.mem_append, List.mem_cons] at hx
      rcases hx with hm | rfl | hm
      · exact absurd hkey (hmiss x (List.mem_of_mem_take hm))
      · rw [hz]; rfl
      · exact absurd hkey (hmiss x (List.mem_of_mem_drop hm))
  · rename_i hy
    have hmiss := lbL_miss h (k := l.key) fun w hw => by rw [hy] at hw; cases hw
    have hz : lenL ls l.key = 0 := by
      unfold lenL
      rw [List.find?_eq_none.2 (fun w hw => by simpa using hmiss w hw)]
    rw [List.mem_append, List.mem_cons] at hx
    rcases hx with hm | rfl | hm
    · exact absurd hkey (hmiss x (List.mem_of_mem_take hm))
    · rw [hz]; rfl
    · exact absurd hkey (hmiss x (List.mem_of_mem_drop hm))

/-- what filling leaves -/
theorem HOk.fill {l : Ls} {hd : Nat} : ∀ (n : Nat) {h : Hp}, HOk h → (l.c < h.cpus ∧ l.z < 2 ∧ l.t < 3) → (∀ x ∈ h.ls, x.key = l.key → x.p.length + n ≤ 8) → n ≤ 8 →
    HOk (h.fill l hd n) ∧ (∀ q, cnt (h.fill l hd n).all q = cnt h.all q) ∧ Same h (h.fill l hd n) ∧ (h.fill l hd n).live = h.live
  | 0, h, hk, _, _, _ => ⟨hk, fun _ => rfl, Same.refl h, rfl⟩
  | n + 1, h, hk, hl, h8, hn => by
    unfold Hp.fill
    cases ht : h.takeZ l.z 0 l.t hd with
    | none => exact ⟨hk, fun _ => rfl, Same.refl h, rfl⟩
    | some r =>
      obtain ⟨h', a⟩ := r
      obtain ⟨hT, hls, hz⟩ := hk.takeZ (by omega) hl.2.2 hl.2.1 ht
      have hl' : l.c < h'.cpus ∧ l.z < 2 ∧ l.t < 3 := by rw [hT.same.cpus]; exact hl
      obtain ⟨g1, g2⟩ := hT.ok.push (l := l) (p := a) hl' ⟨hT.fit.2.2.1, by rw [hT.same.split]; exact hz⟩ (fun x hx hk => by rw [hls] at hx; have := h8 x hx hk; omega) (fun q => by rw [hT.c 0 q]; exact hk.one q)
      obtain ⟨k1, k2, k3, k4⟩ := HOk.fill n (h := { h' with ls := pushL h'.ls l a }) g1 hl' (fun x hx hkey => by
        have := push_mem hT.ok.lk x hx hkey
        have h2 : lenL h'.ls l.key + (n + 1) ≤ 8 := by
          unfold lenL
          cases hf : h'.ls.find? fun x => decide (x.key = l.key) with
          | none => simp only; omega
          | some y =>
            have hy := List.mem_of_find?_eq_some hf
            have hyk := List.find?_some hf
            rw [hls] at hy
            exact h8 y hy (of_decide_eq_true hyk)
        omega) (by omega)
      exact ⟨k1, fun q => by rw [k2, g2, hT.c 0 q], Same.trans (b := { h' with ls := pushL h'.ls l a }) (Same.trans hT.same ⟨rfl, rfl, rfl, rfl⟩) k3, k4.trans hT.live⟩
end Go.Proofs.YtjljcifpcljlaaaDoor
/- Heaps of pages in plain words: asking, draining, giving away. No program in sight. -/
namespace Go.Proofs.YtjljcifpcljlaaaDoor
set_option linter.unusedVariables false

theorem fits_page {p : Nat} (h : p < 256) : fitsB 0 256 p 0 := ⟨by omega, by omega, h, by simp [Nat.mod_one]⟩
theorem hit_t (a o t t' p : Nat) : hit ⟨a, o, t⟩ p = hit ⟨a, o, t'⟩ p := rfl
theorem miss_lens {ls : List Ls} {k n : Nat} (hm : ∀ y ∈ ls, y.key ≠ k) : ∀ x ∈ ls, x.key = k → x.p.length + n ≤ 8 := fun x hx hk => absurd hk (hm x hx)

theorem HOk.filled {h h' : Hp} (hk : HOk h) {l : Ls} {hd a : Nat} (hl : l.c < h.cpus ∧ l.z < 2 ∧ l.t < 3) (hm : ∀ y ∈ h.ls, y.key ≠ l.key) (he : (h.takeZ l.z 0 l.t hd).map (fun r => (r.1.fill l hd 3, r.2)) = some (h', a)) : Took h 0 h' a := by
  cases ht : h.takeZ l.z 0 l.t hd with
  | none => rw [ht] at he; cases he
  | some r =>
    obtain ⟨g, b⟩ := r
    rw [ht] at he
    simp only [Option.map_some, Option.some.injEq, Prod.mk.injEq] at he
    obtain ⟨rfl, rfl⟩ := he
    obtain ⟨hT, hls, hz⟩ := hk.takeZ (by omega) hl.2.2 hl.2.1 ht
    obtain ⟨k1, k2, k3, k4⟩ := HOk.fill (l := l) (hd := hd) 3 hT.ok (by rw [hT.same.cpus]; exact hl) (miss_lens (by rw [hls]; exact hm)) (by omega)
    exact ⟨k1, hT.fit, fun t p => by rw [k2]; exact hT.c t p, hT.same.trans k3, k4.trans hT.live⟩

theorem HOk.single {h h' : Hp} (hk : HOk h) {l : Ls} {hd a : Nat} (hl : l.c < h.cpus ∧ l.z < 2 ∧ l.t < 3) (he : h.single l hd = some (h', a)) : Took h 0 h' a := by
  unfold Hp.single at he
  cases hx : h.ls[lbL h.ls l.key]? with
  | none =>
    rw [hx] at he
    exact hk.filled hl (lbL_miss hk.lk fun y hy => by rw [hx] at hy; cases hy) he
  | some x =>
    rw [hx] at he
    simp only at he
    obtain ⟨hi, hxi⟩ := List.getElem?_eq_some_iff.1 hx
    by_cases hkey : x.key = l.key
    · rw [if_pos hkey] at he
      simp only [Option.some.injEq, Prod.mk.injEq] at he
      obtain ⟨rfl, rfl⟩ := he
      have hxm : x ∈ h.ls := by rw [← hxi]; exact List.getElem_mem hi
      obtain ⟨q1, q2, q3, q4, q5, q6⟩ := hk.lr x hxm
      have hne : x.p ≠ [] := fun e => by rw [e] at q4; simp at q4
      obtain ⟨ys, y, hy⟩ : ∃ ys y, x.p = ys ++ [y] := ⟨x.p.dropLast, x.p.getLast hne, (List.dropLast_concat_getLast hne).symm⟩
      have hlast : x.p.getLastD 0 = y := by rw [hy]; simp
      have hdrop : x.p.dropLast = ys := by rw [hy]; simp
      have hlen : x.p.length = ys.length + 1 := by rw [hy]; simp
      have hym : y ∈ x.p := by rw [hy]; simp
      rw [hlast, hdrop, hlen]
      have hpg : ∀ q, cnt (pgs x.p) q = cnt (pgs ys) q + hit ⟨y, 0, 0⟩ q := fun q => by rw [hy, cnt_pgs_append]; rfl
      have hcl : ∀ q, cnt (lsB (if ys.length + 1 = 1 then h.ls.eraseIdx (lbL h.ls l.key) else h.ls.set (lbL h.ls l.key) { x with p := ys })) q + hit ⟨y, 0, 0⟩ q = cnt (lsB h.ls) q := fun q => by
        split
        · rename_i h1
          have := cnt_lsB_erase hi q
          rw [hxi, hpg] at this
          have hz : ys = [] := List.eq_nil_of_length_eq_zero (by omega)
          rw [hz] at this
          simp only [pgs, List.map_nil, cnt] at this
          omega
        · have := cnt_lsB_set hi { x with p := ys } q
          rw [hxi, hpg] at this
          simp only at this
          omega
      have hca : ∀ t q, cnt ({ h with ls := if ys.length + 1 = 1 then h.ls.eraseIdx (lbL h.ls l.key) else h.ls.set (lbL h.ls l.key) { x with p := ys } } : Hp).all q + hit ⟨y, 0, t⟩ q = cnt h.all q := fun t q => by
        rw [hit_t y 0 t 0, cnt_all, cnt_all]
        simp only
        have := hcl q
        omega
      refine ⟨⟨hk.o0, hk.o1, hk.f0, hk.e0, hk.e1, hk.m0, hk.m1, hk.cp, ?_, ?_, hk.lv, hk.vs, fun q => by have := hca 0 q; have := hk.one q; omega⟩, fits_page (q6 y hym).1, hca, ⟨rfl, rfl, rfl, rfl⟩, rfl⟩
      · simp only
        split
        · exact hk.lk.sublist (List.eraseIdx_sublist _ _)
        · exact rise_set hk.lk hi (by rw [hxi]; rfl)
      · simp only
        intro w hw
        split at hw
        · exact hk.lr w ((List.eraseIdx_sublist _ _).subset hw)
        · rename_i h1
          rcases List.mem_or_eq_of_mem_set hw with hw | rfl
          · exact hk.lr w hw
          · exact ⟨q1, q2, q3, by simp only; omega, by simp only; omega, fun q hq => q6 q (by rw [hy]; simp [hq])⟩
    · rw [if_neg hkey] at he
      exact hk.filled hl (lbL_miss hk.lk fun y hy => by rw [hx] at hy; obtain rfl := Option.some.inj hy; exact hkey) he

theorem HOk.ask {h h' : Hp} (hk : HOk h) {cpu i order t a : Nat} {urgent low : Bool} (hc : cpu < h.cpus) (hi : i < 2) (ho : order ≤ 4) (ht : t < 3) (he : h.ask cpu i order t urgent low = some (h', a)) : Took h order h' a := by
  unfold Hp.ask at he
  split at he
  · rename_i h0
    subst h0
    exact hk.single ⟨hc, hi, ht⟩ he
  · exact (hk.takeZ ho ht hi he).1
theorem HOk.attempt {h h' : Hp} (hk : HOk h) {cpu order t a : Nat} {urgent low : Bool} (hc : cpu < h.cpus) (ho : order ≤ 4) (ht : t < 3) (he : h.attempt cpu order t urgent low = some (h', a)) : Took h order h' a := by
  unfold Hp.attempt at he
  split at he
  · exact hk.ask hc (by omega) ho ht he
  · cases h1 : h.ask cpu 1 order t urgent low with
    | some r =>
      rw [h1] at he
      obtain rfl := Option.some.inj he
      exact hk.ask hc (by omega) ho ht h1
    | none =>
      rw [h1] at he
      exact hk.ask hc (by omega) ho ht he

/-! ## Draining -/
theorem backB_ls (h : Hp) (m : List Ls) (a o : Nat) : ({ h with ls := m } : Hp).backB a o = { h.backB a o with ls := m } := by
  unfold Hp.backB Hp.setZ Hp.zone Hp.zof
  simp only
  split <;> split <;> rfl
theorem backAll_ls : ∀ (ps : List Nat) (h : Hp) (m : List Ls), backAll { h with ls := m } ps = { backAll h ps with ls := m }
  | [], _, _ => rfl
  | p :: ps, h, m => by rw [backAll, backAll, backB_ls, backAll_ls ps]
theorem drainL_ls : ∀ (ls : List Ls) (h : Hp) (m : List Ls), drainL { h with ls := m } ls = { drainL h ls with ls := m }
  | [], _, _ => rfl
  | l :: ls, h, m => by rw [drainL, drainL, backAll_ls, drainL_ls ls]
theorem HOk.backAll : ∀ (ps : List Nat) {h : Hp}, HOk h → (∀ p ∈ ps, p < 256) → (∀ q, cnt h.all q + cnt (pgs ps) q ≤ 1) →
    HOk (backAll h ps) ∧ (∀ q, cnt (backAll h ps).all q = cnt h.all q + cnt (pgs ps) q) ∧ Same h (backAll h ps) ∧ (backAll h ps).ls = h.ls ∧ (backAll h ps).live = h.live
  | [], h, hk, _, _ => ⟨hk, fun q => by simp [Go.Proofs.YtjljcifpcljlaaaDoor.backAll, pgs, cnt], Same.refl h, rfl, rfl⟩
  | p :: ps, h, hk, hp, hd => by
    have hcons : ∀ q, cnt (pgs (p :: ps)) q = hit ⟨p, 0, 0⟩ q + cnt (pgs ps) q := fun _ => rfl
    obtain ⟨g1, g2, g3, g4, g5⟩ := hk.backB (fits_page (hp p (by simp))) (fun q => by have := hd q; rw [hcons] at this; omega)
    obtain ⟨k1, k2, k3, k4, k5⟩ := HOk.backAll ps g1 (fun q hq => hp q (by simp [hq])) (fun q => by rw [g2]; have := hd q; rw [hcons] at this; omega)
    exact ⟨k1, fun q => by have := k2 q; rw [g2] at this; rw [hcons]; show cnt (Go.Proofs.YtjljcifpcljlaaaDoor.backAll (h.backB p 0) ps).all q = _; omega, g3.trans k3, k4.trans g4, k5.trans g5⟩
theorem HOk.drainL : ∀ (ls : List Ls) {h : Hp}, HOk h → (∀ l ∈ ls, ∀ p ∈ l.p, p < 256) → (∀ q, cnt h.all q + cnt (lsB ls) q ≤ 1) →
    HOk (drainL h ls) ∧ (∀ q, cnt (drainL h ls).all q = cnt h.all q + cnt (lsB ls) q) ∧ Same h (drainL h ls) ∧ (drainL h ls).ls = h.ls ∧ (drainL h ls).live = h.live
  | [], h, hk, _, _ => ⟨hk, fun q => by simp [Go.Proofs.YtjljcifpcljlaaaDoor.drainL, lsB, cnt], Same.refl h, rfl, rfl⟩
  | l :: ls, h, hk, hp, hd => by
    obtain ⟨g1, g2, g3, g4, g5⟩ := hk.backAll l.p (hp l (by simp)) (fun q => by have := hd q; rw [cnt_lsB_cons] at this; omega)
    obtain ⟨k1, k2, k3, k4, k5⟩ := HOk.drainL ls g1 (fun m hm => hp m (by simp [hm])) (fun q => by rw [g2]; have := hd q; rw [cnt_lsB_cons] at this; omega)
    exact ⟨k1, fun q => by have := k2 q; rw [g2] at this; rw [cnt_lsB_cons]; show cnt (Go.Proofs.YtjljcifpcljlaaaDoor.drainL (Go.Proofs.YtjljcifpcljlaaaDoor.backAll h l.p) ls).all q = _; omega, g3.trans k3, k4.trans g4, k5.trans g5⟩
theorem HOk.noLists {h : Hp} (hk : HOk h) : HOk { h with ls := [] } :=
  ⟨hk.o0, hk.o1, hk.f0, hk.e0, hk.e1, hk.m0, hk.m1, hk.cp, List.Pairwise.nil, fun l hl => by simp at hl, hk.lv, hk.vs, fun q => by
    have h1 := hk.one q
    rw [cnt_all] at h1 ⊢
    simp only [lsB, cnt]
    omega⟩
theorem HOk.drain {h : Hp} (hk : HOk h) : HOk h.drain ∧ (∀ q, cnt h.drain.all q = cnt h.all q) ∧ Same h h.drain ∧ h.drain.ls = [] ∧ h.drain.live = h.live := by
  have e : h.drain = Go.Proofs.YtjljcifpcljlaaaDoor.drainL { h with ls := [] } h.ls := (drainL_ls h.ls h []).symm
  have hc : ∀ q, cnt ({ h with ls := [] } : Hp).all q + cnt (lsB h.ls) q = cnt h.all q := fun q => by
    rw [cnt_all, cnt_all]
    simp only [lsB, cnt]
    omega
  obtain ⟨k1, k2, k3, k4, k5⟩ := hk.noLists.drainL h.ls (fun l hl p hp => ((hk.lr l hl).2.2.2.2.2 p hp).1) (fun q => by rw [hc]; exact hk.one q)
  rw [e]
  exact ⟨k1, fun q => by rw [k2, hc], Same.trans (b := { h with ls := [] }) ⟨rfl, rfl, rfl, rfl⟩ k3, k4, k5⟩
end Go.Proofs.YtjljcifpcljlaaaDoor
/- Heaps of pages in plain words: Alloc and Free keep what holds. No program in sight. -/
namespace Go.Proofs.YtjljcifpcljlaaaDoor
set_option linter.unusedVariables false

theorem cnt_putIn (l : List Bk) (b : Bk) (q : Nat) : cnt (putIn l b) q = cnt l q + hit b q := by
  unfold putIn
  conv => rhs; rw [← List.take_append_drop (lb l b.a) l]
  rw [cnt_append, cnt_append, cnt]
  omega
theorem cnt_erase {l : List Bk} {i : Nat} (hi : i < l.length) (q : Nat) : cnt (l.eraseIdx i) q + hit l[i] q = cnt l q := by
  have h1 : l = l.take i ++ l[i] :: l.drop (i + 1) := by rw [← List.drop_eq_getElem_cons hi, List.take_append_drop]
  conv => rhs; rw [h1]
  rw [List.eraseIdx_eq_take_drop_succ, cnt_append, cnt_append, cnt]
  omega
theorem rise_putIn {l : List Bk} (h : Rise l) {b : Bk} (hn : ∀ x ∈ l, x.a ≠ b.a) : Rise (putIn l b) := by
  unfold Rise putIn
  rw [List.pairwise_append]
  refine ⟨h.sublist (List.take_sublist _ _), List.pairwise_cons.2 ⟨fun y hy => ?_, h.sublist (List.drop_sublist _ _)⟩, fun x hx y hy => ?_⟩
  · have h1 := lb_above h y hy
    have h2 := hn y (List.mem_of_mem_drop hy)
    omega
  · have h1 := lb_below x hx
    rw [List.mem_cons] at hy
    rcases hy with rfl | hy
    · exact h1
    · have h2 := lb_above h y hy
      omega
theorem mem_putIn {l : List Bk} {b x : Bk} (h : x ∈ putIn l b) : x = b ∨ x ∈ l := by
  unfold putIn at h
  rw [List.mem_append, List.mem_cons] at h
  rcases h with h | rfl | h
  · exact .inr (List.mem_of_mem_take h)
  · exact .inl rfl
  · exact .inr (List.mem_of_mem_drop h)
theorem live_cnt (h : Hp) (p : Nat) : cnt h.live p ≤ cnt h.all p := by rw [cnt_all]; omega

theorem HOk.live_new {g : Hp} (hk : HOk g) {a o t : Nat} (hfit : fitsB 0 256 a o) (ht : t < 3) (hd : ∀ q, cnt g.all q + hit ⟨a, o, t⟩ q ≤ 1) :
    HOk { g with live := putIn g.live ⟨a, o, t⟩ } ∧ ∀ q, cnt ({ g with live := putIn g.live ⟨a, o, t⟩ } : Hp).all q = cnt g.all q + hit ⟨a, o, t⟩ q := by
  have hc : ∀ q, cnt ({ g with live := putIn g.live ⟨a, o, t⟩ } : Hp).all q = cnt g.all q + hit ⟨a, o, t⟩ q := fun q => by
    rw [cnt_all, cnt_all]
    simp only
    rw [cnt_putIn]
    omega
  refine ⟨⟨hk.o0, hk.o1, hk.f0, hk.e0, hk.e1, hk.m0, hk.m1, hk.cp, hk.lk, hk.lr, fun b hb => ?_, rise_putIn hk.vs fun x hx e => ?_, fun q => by rw [hc]; exact hd q⟩, hc⟩
  · rcases mem_putIn hb with rfl | hb
    · exact ⟨hfit, ht⟩
    · exact hk.lv b hb
  · have h1 := hd a
    have h2 := live_cnt g a
    have hpo := pow_pos' o
    have hpx := pow_pos' x.o
    have h3 : 0 < cnt g.live a := cnt_pos.2 ⟨x, hx, by unfold inB; simp only at e; omega⟩
    have h4 : hit ⟨a, o, t⟩ a = 1 := hit_one.2 (by unfold inB; simp only; omega)
    omega

theorem HOk.alloc {h h' : Hp} (hk : HOk h) {cpu order t a : Nat} {urgent low : Bool} (hc : cpu < h.cpus) (ho : order ≤ 4) (ht : t < 3) (he : h.alloc cpu order t urgent low = some (h', a)) :
    HOk h' ∧ (∀ q, cnt h'.all q = cnt h.all q) ∧ Same h h' ∧ h'.live = putIn h.live ⟨a, order, t⟩ ∧ fitsB 0 256 a order := by
  have key : ∃ g, Took h order g a ∧ h' = { g with live := putIn g.live ⟨a, order, t⟩ } := by
    unfold Hp.alloc at he
    cases h1 : h.attempt cpu order t urgent low with
    | some r =>
      rw [h1] at he
      simp only [Option.some.injEq, Prod.mk.injEq] at he
      obtain ⟨rfl, rfl⟩ := he
      exact ⟨r.1, hk.attempt hc ho ht h1, rfl⟩
    | none =>
      rw [h1] at he
      simp only at he
      cases h2 : h.drain.attempt cpu order t urgent low with
      | none => rw [h2] at he; cases he
      | some r =>
        rw [h2] at he
        simp only [Option.some.injEq, Prod.mk.injEq] at he
        obtain ⟨rfl, rfl⟩ := he
        obtain ⟨d1, d2, d3, d4, d5⟩ := hk.drain
        have hT := d1.attempt (by rw [d3.cpus]; exact hc) ho ht h2
        exact ⟨r.1, ⟨hT.ok, hT.fit, fun t p => by rw [hT.c, d2], d3.trans hT.same, hT.live.trans d5⟩, rfl⟩
  obtain ⟨g, hT, rfl⟩ := key
  obtain ⟨k1, k2⟩ := hT.ok.live_new hT.fit ht (fun q => by rw [hT.c t q]; exact hk.one q)
  exact ⟨k1, fun q => by rw [k2, hT.c t q], Same.trans hT.same ⟨rfl, rfl, rfl, rfl⟩, by simp only; rw [hT.live], hT.fit⟩

/-! ## Free -/
theorem push_other {ls : List Ls} {l : Ls} {p : Nat} : ∀ x ∈ pushL ls l p, x.key ≠ l.key → x ∈ ls := by
  intro x hx hne
  unfold pushL at hx
  split at hx
  · rename_i y hy
    split at hx
    · rename_i hk
      rcases List.mem_or_eq_of_mem_set hx with hx | rfl
      · exact hx
      · exact absurd hk hne
    · rw [List.mem_append, List.mem_cons] at hx
      rcases hx with hx | rfl | hx
      · exact List.mem_of_mem_take hx
      · exact absurd rfl hne
      · exact List.mem_of_mem_drop hx
  · rw [List.mem_append, List.mem_cons] at hx
    rcases hx with hx | rfl | hx
    · exact List.mem_of_mem_take hx
    · exact absurd rfl hne
    · exact List.mem_of_mem_drop hx
theorem push_has (ls : List Ls) (l : Ls) (p : Nat) : ∃ x ∈ pushL ls l p, x.key = l.key := by
  unfold pushL
  split
  · rename_i y hy
    obtain ⟨hi, hyi⟩ := List.getElem?_eq_some_iff.1 hy
    split
    · rename_i hk
      exact ⟨{ y with p := y.p ++ [p] }, List.mem_set hi _, hk⟩
    · exact ⟨{ l with p := [p] }, by simp, rfl⟩
  · exact ⟨{ l with p := [p] }, by simp, rfl⟩
theorem push_at {ls : List Ls} (h : RiseL ls) (l : Ls) (p : Nat) : ∃ x, (pushL ls l p)[lbL (pushL ls l p) l.key]? = some x ∧ x.key = l.key ∧ x.p.length = lenL ls l.key + 1 := by
  obtain ⟨x, hx, hk⟩ := push_has ls l p
  have h1 := lbL_hit (push_rise h l p) hx
  rw [hk] at h1
  exact ⟨x, h1, hk, push_mem h x hx hk⟩
theorem lenL_le {ls : List Ls} {k N : Nat} (h : ∀ x ∈ ls, x.p.length ≤ N) : lenL ls k ≤ N := by
  unfold lenL
  cases hf : ls.find? fun x => decide (x.key = k) with
  | none => exact Nat.zero_le _
  | some y => exact h y (List.mem_of_find?_eq_some hf)

theorem HOk.give {h : Hp} (hk : HOk h) {cpu p : Nat} (hc : cpu < h.cpus) (hp : p < 256) (hd : ∀ q, cnt h.all q + hit ⟨p, 0, 0⟩ q ≤ 1) :
    HOk (h.give cpu p) ∧ (∀ q, cnt (h.give cpu p).all q = cnt h.all q + hit ⟨p, 0, 0⟩ q) ∧ Same h (h.give cpu p) ∧ (h.give cpu p).live = h.live := by
  unfold Hp.give
  obtain ⟨t, ht⟩ : ∃ t, (h.zone (h.zof p)).y.getD ((p - (h.zone (h.zof p)).f) / 8) 0 = t := ⟨_, rfl⟩
  have ht3 : t < 3 := by
    rw [← ht]
    have hz := (hk.zone (h.zof p)).1.typ
    rw [List.getD_eq_getElem?_getD]
    cases hg : (h.zone (h.zof p)).y[(p - (h.zone (h.zof p)).f) / 8]? with
    | none => simp
    | some u => exact hz u (List.mem_of_getElem? hg)
  rw [ht]
  have hz2 : h.zof p < 2 := by unfold Hp.zof; split <;> omega
  have hz3 : p < h.z0.e ↔ h.zof p = 0 := by unfold Hp.zof; split <;> simp_all
  obtain ⟨l, hl⟩ : ∃ l : Ls, l = ⟨cpu, h.zof p, t, []⟩ := ⟨_, rfl⟩
  have hlr : l.c < h.cpus ∧ l.z < 2 ∧ l.t < 3 := by rw [hl]; exact ⟨hc, hz2, ht3⟩
  have hlz : p < 256 ∧ (p < h.z0.e ↔ l.z = 0) := by rw [hl]; exact ⟨hp, hz3⟩
  rw [← hl]
  simp only
  obtain ⟨x, hx, hxk, hxl⟩ := push_at hk.lk l p
  rw [hx]
  simp only
  have hlen := lenL_le (k := l.key) (fun x hx => (hk.lr x hx).2.2.2.2.1)
  by_cases h8 : 8 < x.p.length
  · rw [if_pos h8]
    obtain ⟨hi, hxi⟩ := List.getElem?_eq_some_iff.1 hx
    have hxm : x ∈ pushL h.ls l p := by rw [← hxi]; exact List.getElem_mem hi
    have h9 := push_ok (N := 8) (M := 9) hk.lr hlr hlz (by omega) (by omega) (fun y hy _ => by have := (hk.lr y hy).2.2.2.2.1; omega)
    obtain ⟨q1, q2, q3, q4, q5, q6⟩ := h9 x hxm
    have hpg : ∀ q, cnt (pgs x.p) q = cnt (pgs (x.p.take 4)) q + cnt (pgs (x.p.drop 4)) q := fun q => by rw [← cnt_pgs_append, List.take_append_drop]
    have hcl : ∀ q, cnt (lsB ((pushL h.ls l p).set (lbL (pushL h.ls l p) l.key) { x with p := x.p.drop 4 })) q + cnt (pgs (x.p.take 4)) q = cnt (lsB h.ls) q + hit ⟨p, 0, 0⟩ q := fun q => by
      have h1 := cnt_lsB_set hi { x with p := x.p.drop 4 } q
      have h2 := cnt_push h.ls l p q
      rw [hxi, hpg] at h1
      simp only at h1
      omega
    have hca : ∀ q, cnt ({ h with ls := (pushL h.ls l p).set (lbL (pushL h.ls l p) l.key) { x with p := x.p.drop 4 } } : Hp).all q + cnt (pgs (x.p.take 4)) q = cnt h.all q + hit ⟨p, 0, 0⟩ q := fun q => by
      rw [cnt_all, cnt_all]
      simp only
      have := hcl q
      omega
    have hk2 : HOk { h with ls := (pushL h.ls l p).set (lbL (pushL h.ls l p) l.key) { x with p := x.p.drop 4 } } := by
      refine ⟨hk.o0, hk.o1, hk.f0, hk.e0, hk.e1, hk.m0, hk.m1, hk.cp, rise_set (push_rise hk.lk l p) hi (by rw [hxi]; rfl), fun y hy => ?_, hk.lv, hk.vs, fun q => by have := hca q; have := hd q; omega⟩
      simp only at hy ⊢
      obtain ⟨j, hj, rfl⟩ := List.getElem_of_mem hy
      rw [List.length_set] at hj
      rw [List.getElem_set]
      by_cases hij : lbL (pushL h.ls l p) l.key = j
      · rw [if_pos hij]
        exact ⟨q1, q2, q3, by simp only [List.length_drop]; omega, by simp only [List.length_drop]; omega, fun q hq => q6 q (List.mem_of_mem_drop hq)⟩
      · rw [if_neg hij]
        refine hk.lr _ (push_other _ (List.getElem_mem hj) fun e => ?_)
        rcases Nat.lt_or_gt_of_ne hij with hlt | hgt
        · have := List.pairwise_iff_getElem.1 (push_rise hk.lk l p) _ _ hi hj hlt
          rw [hxi, hxk, e] at this
          omega
        · have := List.pairwise_iff_getElem.1 (push_rise hk.lk l p) _ _ hj hi hgt
          rw [hxi, hxk, e] at this
          omega
    obtain ⟨k1, k2, k3, k4, k5⟩ := hk2.backAll (x.p.take 4) (fun q hq => (q6 q (List.mem_of_mem_take hq)).1) (fun q => by rw [hca]; exact hd q)
    have e : Go.Proofs.YtjljcifpcljlaaaDoor.backAll { h with ls := (pushL h.ls l p).set (lbL (pushL h.ls l p) l.key) { x with p := x.p.drop 4 } } (x.p.take 4) = { Go.Proofs.YtjljcifpcljlaaaDoor.backAll { h with ls := pushL h.ls l p } (x.p.take 4) with ls := (pushL h.ls l p).set (lbL (pushL h.ls l p) l.key) { x with p := x.p.drop 4 } } := backAll_ls (x.p.take 4) { h with ls := pushL h.ls l p } _
    rw [← e]
    exact ⟨k1, fun q => by rw [k2, hca], Same.trans (b := { h with ls := (pushL h.ls l p).set (lbL (pushL h.ls l p) l.key) { x with p := x.p.drop 4 } }) ⟨rfl, rfl, rfl, rfl⟩ k3, k5⟩
  · rw [if_neg h8]
    obtain ⟨g1, g2⟩ := hk.push hlr hlz (fun y hy hyk => by
      have h1 := lenL_mem hk.lk hy
      rw [hyk] at h1
      omega) hd
    exact ⟨g1, g2, ⟨rfl, rfl, rfl, rfl⟩, rfl⟩

theorem HOk.freeB {h : Hp} (hk : HOk h) {cpu i : Nat} (hc : cpu < h.cpus) (hi : i < h.live.length) :
    HOk (h.freeB cpu i h.live[i]) ∧ (∀ q, cnt (h.freeB cpu i h.live[i]).all q = cnt h.all q) ∧ Same h (h.freeB cpu i h.live[i]) ∧ (h.freeB cpu i h.live[i]).live = h.live.eraseIdx i := by
  have hb := hk.lv _ (List.getElem_mem hi)
  have hce : ∀ q, cnt ({ h with live := h.live.eraseIdx i } : Hp).all q + hit ⟨h.live[i].a, h.live[i].o, 0⟩ q = cnt h.all q := fun q => by
    have h1 := cnt_erase hi q
    have h2 : hit ⟨h.live[i].a, h.live[i].o, 0⟩ q = hit h.live[i] q := rfl
    rw [cnt_all, cnt_all, h2]
    simp only
    omega
  have hk1 : HOk { h with live := h.live.eraseIdx i } := ⟨hk.o0, hk.o1, hk.f0, hk.e0, hk.e1, hk.m0, hk.m1, hk.cp, hk.lk, hk.lr, fun b hb => hk.lv b ((List.eraseIdx_sublist _ _).subset hb), hk.vs.sublist (List.eraseIdx_sublist _ _), fun q => by have := hce q; have := hk.one q; omega⟩
  unfold Hp.freeB
  simp only
  split
  · obtain ⟨g1, g2, g3, g4, g5⟩ := hk1.backB hb.1 (fun q => by rw [hce]; exact hk.one q)
    exact ⟨g1, fun q => by rw [g2, hce], Same.trans (b := { h with live := h.live.eraseIdx i }) ⟨rfl, rfl, rfl, rfl⟩ g3, g5⟩
  · rename_i h0
    have ho : h.live[i].o = 0 := by omega
    rw [ho] at hce
    obtain ⟨g1, g2, g3, g4⟩ := hk1.give (cpu := cpu) hc hb.1.2.2.1 (fun q => by rw [hce]; exact hk.one q)
    exact ⟨g1, fun q => by rw [g2, hce], Same.trans (b := { h with live := h.live.eraseIdx i }) ⟨rfl, rfl, rfl, rfl⟩ g3, g4⟩
end Go.Proofs.YtjljcifpcljlaaaDoor
/- Many owned rows, each in a block of its own. No program in sight. -/
namespace Go.Proofs.YtjljcifpcljlaaaDoor
open Go.RowKit
set_option linter.unusedVariables false

/-- a row: element type, cells of an element, the slice value, its length, the cells -/
structure Rs where
  e : TypeId
  k : Nat
  v : Value
  n : Nat
  xs : List Value
def Rs.on (r : Rs) (W : World) (base : Nat) : Prop := W.ownsRow base r.e r.k r.v r.n r.xs
def Rs.off (a b : Rs) : Prop := ∀ g, a.v.ownBlock = some g → b.v.ownBlock ≠ some g
theorem Rs.off.symm {a b : Rs} (h : a.off b) : b.off a := fun g h1 h2 => h g h2 h1

structure OwnL (W : World) (base : Nat) (rs : List Rs) : Prop where
  each : ∀ r ∈ rs, r.on W base
  dis : rs.Pairwise Rs.off

section
variable {W W' : World} {bas : Nat} {rs : List Rs}
theorem OwnL.below (h : OwnL W bas rs) (hb : Below W.heap.size W W') : OwnL W' bas rs := ⟨fun r hr => own_below (h.each r hr) hb (Nat.le_refl _), h.dis⟩
theorem OwnL.base {base' : Nat} (h : OwnL W bas rs) (hb : base' ≤ bas) : OwnL W base' rs := ⟨fun r hr => own_base (h.each r hr) hb, h.dis⟩
theorem OwnL.ne (h : OwnL W bas rs) {g : Nat} (hg : g < bas ∨ W.heap.size ≤ g) : ∀ r ∈ rs, r.v.ownBlock ≠ some g := fun r hr => own_ne (h.each r hr) hg
theorem OwnL.far (h : OwnL W bas rs) {g : Nat} (hg : ∀ r ∈ rs, r.v.ownBlock ≠ some g) (i : Nat) (u : Value) : OwnL (W.setCell ⟨g, i, none⟩ u) bas rs := ⟨fun r hr => own_set (h.each r hr) (hg r hr) u, h.dis⟩
theorem OwnL.at (h : OwnL W bas rs) {i : Nat} (hi : i < rs.length) : rs[i].on W bas := h.each _ (List.getElem_mem hi)
theorem OwnL.off (h : OwnL W bas rs) {i j : Nat} (hi : i < rs.length) (hj : j < rs.length) (hne : i ≠ j) : rs[i].off rs[j] := by
  rcases Nat.lt_or_gt_of_ne hne with hlt | hgt
  · exact List.pairwise_iff_getElem.1 h.dis i j hi hj hlt
  · exact (List.pairwise_iff_getElem.1 h.dis j i hj hi hgt).symm
theorem off_set {rs : List Rs} {i : Nat} {r' : Rs} (hd : rs.Pairwise Rs.off) (hi : i < rs.length) (h : ∀ j (hj : j < rs.length), j ≠ i → r'.off rs[j]) : (rs.set i r').Pairwise Rs.off := by
  rw [List.pairwise_iff_getElem]
  intro a b ha hb hab
  rw [List.length_set] at ha hb
  rw [List.getElem_set, List.getElem_set]
  by_cases h1 : i = a
  · subst h1
    rw [if_pos rfl, if_neg (by omega)]
    exact h b hb (by omega)
  · rw [if_neg h1]
    by_cases h2 : i = b
    · subst h2
      rw [if_pos rfl]
      exact (h a ha (by omega)).symm
    · rw [if_neg h2]
      exact List.pairwise_iff_getElem.1 hd a b ha hb hab
theorem mem_set_ne {rs : List Rs} {i : Nat} {r' r : Rs} (h : r ∈ rs.set i r') : r = r' ∨ ∃ j, ∃ (hj : j < rs.length), j ≠ i ∧ r = rs[j] := by
  obtain ⟨j, hj, rfl⟩ := List.getElem_of_mem h
  rw [List.length_set] at hj
  rw [List.getElem_set]
  by_cases h1 : i = j
  · rw [if_pos h1]; exact .inl rfl
  · rw [if_neg h1]; exact .inr ⟨j, hj, fun e => h1 e.symm, rfl⟩
/-- a row has grown, in its own block or in a new one -/
theorem OwnL.grown (h : OwnL W bas rs) {i : Nat} (hi : i < rs.length) {r' : Rs} (hg : W.grownBy W' rs[i].v.ownBlock) (ho : r'.on W' bas) (hn : ∀ g, r'.v.ownBlock = some g → rs[i].v.ownBlock = some g ∨ W.heap.size ≤ g) : OwnL W' bas (rs.set i r') := by
  have hoff : ∀ j (hj : j < rs.length), j ≠ i → r'.off rs[j] := fun j hj hne g h1 h2 => by
    rcases hn g h1 with h3 | h3
    · exact h.off hi hj (fun e => hne e.symm) g h3 h2
    · exact own_ne (h.at hj) (.inr h3) h2
  refine ⟨fun r hr => ?_, off_set h.dis hi hoff⟩
  rcases mem_set_ne hr with rfl | ⟨j, hj, hne, rfl⟩
  · exact ho
  · exact own_grown (h.at hj) hg (fun k hk e => h.off hi hj (fun e => hne e.symm) k e hk)
/-- another row takes a row's place: it lies above all the others -/
theorem OwnL.swap (h : OwnL W bas rs) {i : Nat} (hi : i < rs.length) {r' : Rs} {bs : Nat} (ho : r'.on W bs) (hb : bas ≤ bs) (hbs : ∀ j (hj : j < rs.length), j ≠ i → ∀ g, rs[j].v.ownBlock = some g → g < bs) : OwnL W bas (rs.set i r') := by
  refine ⟨fun r hr => ?_, off_set h.dis hi fun j hj hne g h1 h2 => ?_⟩
  · rcases mem_set_ne hr with rfl | ⟨j, hj, hne, rfl⟩
    · exact own_base ho hb
    · exact h.at hj
  · have h3 := hbs j hj hne g h2
    have h4 := (ho.lt g h1).1
    omega
/-- a cell of a row is written -/
theorem OwnL.cell (h : OwnL W bas rs) {i : Nat} (hi : i < rs.length) {g : Nat} {c : Nat} (hv : rs[i].v = .slice (some ⟨g, 0, none⟩) rs[i].n c) (j : Nat) (u : Value) (hu : u.oneCell' = true) : OwnL (W.setCell ⟨g, j, none⟩ u) bas (rs.set i { rs[i] with xs := rs[i].xs.set j u }) := by
  have hb : rs[i].v.ownBlock = some g := by rw [hv]; rfl
  refine ⟨fun r hr => ?_, off_set h.dis hi fun j' hj' hne => h.off hi hj' (fun e => hne e.symm)⟩
  rcases mem_set_ne hr with rfl | ⟨j', hj', hne, rfl⟩
  · have h0 := h.at hi
    unfold Rs.on at *
    simp only
    rw [hv] at h0
    have h1 := (World.ownsRow.stored h0 j u).1
    rw [hv]
    exact h1
  · exact own_set (h.at hj') (h.off hi hj' (fun e => hne e.symm) g hb) u
/-- a row more -/
theorem OwnL.cons (h : OwnL W bas rs) {r' : Rs} {bs : Nat} (ho : r'.on W bs) (hb : bas ≤ bs) (hbs : ∀ r ∈ rs, ∀ g, r.v.ownBlock = some g → g < bs) : OwnL W bas (r' :: rs) :=
  ⟨fun r hr => by
    rw [List.mem_cons] at hr
    rcases hr with rfl | hr
    · exact own_base ho hb
    · exact h.each r hr, List.pairwise_cons.2 ⟨fun r hr g h1 h2 => by have h3 := hbs r hr g h2; have h4 := (ho.lt g h1).1; omega, h.dis⟩⟩
theorem OwnL.sub {rs' : List Rs} (h : OwnL W bas rs) (hs : rs'.Sublist rs) : OwnL W bas rs' := ⟨fun r hr => h.each r (hs.subset hr), h.dis.sublist hs⟩
theorem OwnL.perm {rs' : List Rs} (h : OwnL W bas rs) (hp : rs.Perm rs') : OwnL W bas rs' := ⟨fun r hr => h.each r (hp.mem_iff.2 hr), (hp.pairwise_iff (fun h => Rs.off.symm h)).1 h.dis⟩
theorem OwnL.nil (W : World) (bas : Nat) : OwnL W bas [] := ⟨fun r hr => by simp at hr, List.Pairwise.nil⟩
theorem OwnL.lt (h : OwnL W bas rs) : ∀ r ∈ rs, ∀ g, r.v.ownBlock = some g → bas ≤ g ∧ g < W.heap.size := fun r hr g hg => (h.each r hr).lt g hg
end
end Go.Proofs.YtjljcifpcljlaaaDoor
/- Heaps of pages in memory; contracts of package pages: less, zone, held, typeOf. -/
namespace Go.Proofs.YtjljcifpcljlaaaDoor
open Go.RowKit
set_option linter.unusedVariables false

/-- a zone and where its rows lie -/
structure Zc where
  z : Zn
  a1 : Option Addr
  a2 : Option Addr
  n1 : Nat
  n2 : Nat
  c1 : Nat
  c2 : Nat
def encZc (r : Zc) : List Value := [vI r.z.f, vI r.z.e, .slice r.a1 r.n1 r.c1, .slice r.a2 r.n2 r.c2]
theorem encZc_length (r : Zc) : (encZc r).length = 4 := rfl
theorem encZc_cells {w : World} {b o : Nat} {r : Zc} (hc : ∀ i v, (encZc r)[i]? = some v → w.cell? ⟨b, o + i, none⟩ = some v) : w.cell? ⟨b, o, none⟩ = some (.int .i64 r.z.f) ∧ w.cell? ⟨b, o + 1, none⟩ = some (.int .i64 r.z.e) ∧ w.cell? ⟨b, o + 2, none⟩ = some (.slice r.a1 r.n1 r.c1) ∧ w.cell? ⟨b, o + 3, none⟩ = some (.slice r.a2 r.n2 r.c2) := ⟨hc 0 _ rfl, hc 1 _ rfl, hc 2 _ rfl, hc 3 _ rfl⟩
/-- a list and where its pages lie -/
structure Lc where
  l : Ls
  a : Option Addr
  n : Nat
  c : Nat
def encLc (r : Lc) : List Value := [vI r.l.c, vI r.l.z, vI r.l.t, .slice r.a r.n r.c]
theorem encLc_length (r : Lc) : (encLc r).length = 4 := rfl
theorem encLc_cells {w : World} {b o : Nat} {r : Lc} (hc : ∀ i v, (encLc r)[i]? = some v → w.cell? ⟨b, o + i, none⟩ = some v) : w.cell? ⟨b, o, none⟩ = some (.int .i64 r.l.c) ∧ w.cell? ⟨b, o + 1, none⟩ = some (.int .i64 r.l.z) ∧ w.cell? ⟨b, o + 2, none⟩ = some (.int .i64 r.l.t) ∧ w.cell? ⟨b, o + 3, none⟩ = some (.slice r.a r.n r.c) := ⟨hc 0 _ rfl, hc 1 _ rfl, hc 2 _ rfl, hc 3 _ rfl⟩

structure HAt (W : World) (az am al av : Option Addr) (nl nv : Nat) (y0 y1 : Zc) (lc : List Lc) (h : Hp) : Prop where
  zr : Row W az (flat encZc [y0, y1])
  mr : Row W am (flat encT [h.m0, h.m1])
  lr : Row W al (flat encLc lc)
  vr : Row W av (flat encBk h.live)
  e0 : y0.z = h.z0
  e1 : y1.z = h.z1
  t0 : ZAt W y0.a1 y0.a2 y0.n1 y0.n2 h.z0
  t1 : ZAt W y1.a1 y1.a2 y1.n1 y1.n2 h.z1
  ll : lc.map Lc.l = h.ls
  nl : lc.length = nl
  nv : h.live.length = nv
  pr : ∀ r ∈ lc, r.l.p.length = r.n ∧ Row W r.a (flat encT r.l.p)
theorem HAt.below {W W' : World} {az am al av : Option Addr} {nl nv : Nat} {y0 y1 : Zc} {lc : List Lc} {h : Hp} (hh : HAt W az am al av nl nv y0 y1 lc h) (hb : Below W.heap.size W W') : HAt W' az am al av nl nv y0 y1 lc h :=
  ⟨hh.zr.below hb, hh.mr.below hb, hh.lr.below hb, hh.vr.below hb, hh.e0, hh.e1, hh.t0.below hb, hh.t1.below hb, hh.ll, hh.nl, hh.nv, fun r hr => ⟨(hh.pr r hr).1, (hh.pr r hr).2.below hb⟩⟩

theorem less_ok (a b : Ls) (x1 x2 : Option Addr) (k1 k2 d1 d2 : Nat) (w : World) (ha : a.z < 2 ∧ a.t < 3) (hb : b.z < 2 ∧ b.t < 3) :
    Calls Tryd.prog 61 #[.agg #[.int .i64 a.c, .int .i64 a.z, .int .i64 a.t, .slice x1 k1 d1], .agg #[.int .i64 b.c, .int .i64 b.z, .int .i64 b.t, .slice x2 k2 d2]] w fun ev w' => ev = .returned (.bool (decide (a.key < b.key))) ∧ Below w.heap.size w w' := by
  by_cases hc : a.c = b.c
  · by_cases hz : a.z = b.z
    · have g1 : ((a.c : Int) != (b.c : Int)) = false := by simp [hc]
      have g2 : ((a.z : Int) != (b.z : Int)) = false := by simp [hz]
      have hk : decide (a.key < b.key) = decide (a.t < b.t) := by
        unfold Ls.key
        rw [hc, hz]
        exact decide_eq_decide.2 (by omega)
      go_enter Tryd.func61, Tryd.ntmps61
      go_wp2
      go_ret
      exact ⟨ret_bool hk.symm, Below.step (below_alloc _ _) (below_alloc _ _)⟩
    · have g1 : ((a.c : Int) != (b.c : Int)) = false := by simp [hc]
      have g2 : ((a.z : Int) != (b.z : Int)) = true := by rw [bne_iff_ne]; omega
      have hk : decide (a.key < b.key) = decide (a.z < b.z) := by
        unfold Ls.key
        rw [hc]
        exact decide_eq_decide.2 (by omega)
      go_enter Tryd.func61, Tryd.ntmps61
      go_wp2
      go_ret
      exact ⟨ret_bool hk.symm, Below.step (below_alloc _ _) (below_alloc _ _)⟩
  · have g1 : ((a.c : Int) != (b.c : Int)) = true := by rw [bne_iff_ne]; omega
    have hk : decide (a.key < b.key) = decide (a.c < b.c) := by
      unfold Ls.key
      exact decide_eq_decide.2 (by omega)
    go_enter Tryd.func61, Tryd.ntmps61
    go_wp2
    go_ret
    exact ⟨ret_bool hk.symm, Below.step (below_alloc _ _) (below_alloc _ _)⟩

/-- a heap's value -/
def heapV (az am al av : Option Addr) (cz cm cl cv cpus nl nv : Nat) : Value := .agg #[.slice az 2 cz, .slice am 2 cm, .int .i64 cpus, .slice al nl cl, .slice av nv cv]

theorem zone_pg (az am al av : Option Addr) (cz cm cl cv nl nv : Nat) (y0 y1 : Zc) (lc : List Lc) (h : Hp) (p : Nat) (w : World) (hh : HAt w az am al av nl nv y0 y1 lc h) :
    Calls Tryd.prog 47 #[.agg #[.slice az 2 cz, .slice am 2 cm, .int .i64 h.cpus, .slice al nl cl, .slice av nv cv], .int .i64 p] w fun ev w' => ev = .returned (.int .i64 (h.zof p : Nat)) ∧ Below w.heap.size w w' := by
  have hb := below_alloc w (.cells #[.slice az 2 cz, .slice am 2 cm, .int .i64 (h.cpus : Int), .slice al nl cl, .slice av nv cv] 34)
  obtain ⟨bb, off, ha1, hbb, hc⟩ := row_elem encZc_length (by decide) (hh.zr.below hb) (j := 0) (by simp)
  obtain rfl := ha1
  obtain ⟨hc0, hc1, hc2, hc3⟩ := encZc_cells hc
  have he := hh.e0
  simp only [List.getElem_cons_zero] at hc0 hc1 hc2 hc3
  rw [he] at hc0 hc1
  unfold Hp.zof
  clear hh hc
  by_cases hp : p < h.z0.e
  · have d1 : (p : Int) < h.z0.e := by omega
    rw [if_pos hp]
    go_enter Tryd.func47, Tryd.ntmps47
    go_wp2
    go_ret
    exact ⟨rfl, hb⟩
  · have d1 : ¬ (p : Int) < h.z0.e := by omega
    rw [if_neg hp]
    go_enter Tryd.func47, Tryd.ntmps47
    go_wp2
    go_ret
    exact ⟨rfl, hb⟩

/-- the type that flags ask for -/
def flagT (flags : Nat) : Nat := if flags / 2 % 2 = 1 then 1 else if flags / 4 % 2 = 1 then 2 else 0
theorem typeOf_pg (flags : Nat) (w : World) (h1 : flags ≤ 15) (h2 : ¬ (flags / 2 % 2 = 1 ∧ flags / 4 % 2 = 1)) :
    Calls Tryd.prog 39 #[.int .i64 flags] w fun ev w' => ev = .returned (.tuple #[.int .i64 (flagT flags : Nat), .bool true]) ∧ w = w' := by
  have hall : flags = 0 ∨ flags = 1 ∨ flags = 2 ∨ flags = 3 ∨ flags = 4 ∨ flags = 5 ∨ flags = 8 ∨ flags = 9 ∨ flags = 10 ∨ flags = 11 ∨ flags = 12 ∨ flags = 13 := by omega
  have b2 : ∀ f : Nat, f ≤ 15 → bits .and .i64 (f : Int) 2 = (if f / 2 % 2 = 1 then 2 else 0) ∧ bits .and .i64 (f : Int) 4 = (if f / 4 % 2 = 1 then 4 else 0) := by decide +kernel
  rcases hall with rfl | rfl | rfl | rfl | rfl | rfl | rfl | rfl | rfl | rfl | rfl | rfl
  all_goals
    go_enter Tryd.func39, Tryd.ntmps39
    go_wp2
    go_ret2
    exact ⟨rfl, rfl⟩
end Go.Proofs.YtjljcifpcljlaaaDoor
/- Blocks that stay as they are. No program in sight. -/
namespace Go.Proofs.YtjljcifpcljlaaaDoor
open Go.RowKit
set_option linter.unusedVariables false

/-- the blocks of X are as they were -/
structure Safe (X : Nat → Prop) (w w' : World) : Prop where
  os : w'.os = w.os
  tape : w'.tape = w.tape
  output : w'.output = w.output
  size : w.heap.size ≤ w'.heap.size
  block : ∀ k, k < w.heap.size → X k → w'.heap[k]? = w.heap[k]?
section
variable {X Y : Nat → Prop} {a b c w w' : World} {B : Nat}
theorem Safe.refl (X : Nat → Prop) (w : World) : Safe X w w := ⟨rfl, rfl, rfl, Nat.le_refl _, fun _ _ _ => rfl⟩
theorem Safe.trans (h : Safe X a b) (k : Safe X b c) : Safe X a c := ⟨k.os.trans h.os, k.tape.trans h.tape, k.output.trans h.output, Nat.le_trans h.size k.size, fun j hj hx => (k.block j (Nat.lt_of_lt_of_le hj h.size) hx).trans (h.block j hj hx)⟩
theorem Safe.sub (h : Safe X a b) (hy : ∀ k, k < a.heap.size → Y k → X k) : Safe Y a b := ⟨h.os, h.tape, h.output, h.size, fun j hj hx => h.block j hj (hy j hj hx)⟩
theorem Safe.ofBelow (h : Below w.heap.size w w') : Safe X w w' := ⟨h.os, h.tape, h.output, h.size, fun k hk _ => h.block k hk⟩
theorem Safe.ofGrown {row : Option Nat} (h : w.grownBy w' row) (hr : ∀ k, X k → some k ≠ row) : Safe X w w' := ⟨h.os, h.tape, h.output, h.size, fun k hk hx => h.block k hk (hr k hx)⟩
theorem Safe.then (h : Safe X a b) (k : Below b.heap.size b c) : Safe X a c := h.trans (.ofBelow k)
theorem Safe.below (h : Safe X w w') (hX : ∀ k, k < B → X k) (hB : B ≤ w.heap.size) : Below B w w' := ⟨h.os, h.tape, h.output, h.size, fun k hk => h.block k (Nat.lt_of_lt_of_le hk hB) (hX k hk)⟩
theorem Safe.after (h0 : Below B a w) (h : Safe X w w') (hX : ∀ k, k < B → X k) (hB : B ≤ w.heap.size) : Below B a w' := h0.trans (h.below hX hB)
theorem Safe.set (h : Safe X a b) {g : Nat} (hg : ¬ X g) (i : Nat) (u : Value) : Safe X a (b.setCell ⟨g, i, none⟩ u) := h.trans ⟨rfl, rfl, rfl, by simp [World.setCell], fun k hk hx => Below.heap_setCell _ _ _ _ (fun e => hg (by rw [← show k = g from e]; exact hx))⟩
theorem Safe.cell (h : Safe X w w') {p : Addr} (hp : p.block < w.heap.size) (hx : X p.block) : w'.cell? p = w.cell? p := World.cell?_of_block (w := w) (h.block p.block hp hx)
theorem Safe.frozen (h : Safe X w w') {p : Addr} (hp : p.block < w.heap.size) (hx : X p.block) : w'.frozen? p = w.frozen? p := World.frozen?_of_block (w := w) (h.block p.block hp hx)
theorem Safe.box (h : Safe X w w') {g : Nat} {vs : Array Value} (hc : ∀ o, w.cell? ⟨g, o, none⟩ = vs[o]?) (hg : g < w.heap.size) (hx : X g) (o : Nat) : w'.cell? ⟨g, o, none⟩ = vs[o]? := (h.cell (p := ⟨g, o, none⟩) hg hx).trans (hc o)
theorem Safe.frz (h : Safe X w w') {g : Nat} (hc : ∀ o, w.frozen? ⟨g, o, none⟩ = false) (hg : g < w.heap.size) (hx : X g) (o : Nat) : w'.frozen? ⟨g, o, none⟩ = false := (h.frozen (p := ⟨g, o, none⟩) hg hx).trans (hc o)
end
end Go.Proofs.YtjljcifpcljlaaaDoor
