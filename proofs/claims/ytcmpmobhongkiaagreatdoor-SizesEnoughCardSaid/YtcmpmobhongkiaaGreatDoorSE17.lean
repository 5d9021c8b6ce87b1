/- texts of this claim, joined. -/
import Derived.Test.YtcmpmobhongkiaaGreatDoorSE0
import Derived.Test.YtcmpmobhongkiaaGreatDoorSE15
import Derived.Deep.RegionHeld3
set_option linter.unusedVariables false
set_option linter.unusedSimpArgs false
namespace Go.Proofs.YtcmpmobhongkiaaGreatDoor
section
open Go.RowKit

theorem idx2 (x y : Value) (W : World) (hx : x.oneCell' = true) (hy : y.oneCell' = true) : (Sem.run Tryz.prog (Instr.index 250 (.agg #[x, y]) (.int .i64 0)) W = .ok x W) ∧ (Sem.run Tryz.prog (Instr.index 250 (.agg #[x, y]) (.int .i64 1)) W = .ok y W) := by
 obtain ⟨i0, hi, hz, hsize, hby⟩ := info_parts lK
 constructor <;> simp [Instr.index, run_underlying Tryz.underlying250, sizeOf, typeInfo, hi, hsize, part, go_sem]

def nV (z : Zn) (order t : Nat) (r : Option Nat) (y : Zn) (rest : Option Nat) : Prop :=
 (r = none ∧ y = z ∧ iT z.l t (5 - order) order = none ∧ dD z.l t order 5 = rest) ∨
 (∃ i b, r = some i ∧ z.take order t = y.cut i order ∧ y.ok ∧ y.f = z.f ∧ y.e = z.e ∧ y.l[i]? = some b ∧ order ≤ b.o ∧ y.y.length = z.y.length ∧ y.l.length = z.l.length)

theorem KW {z : Zn} (hz : z.ok) {order t i : Nat} (h : iT z.l t (5 - order) order = some i) (rest : Option Nat) : nV z order t (some i) z rest := by
 obtain ⟨b, h1, h2, _⟩ := lW h
 exact .inr ⟨i, b, rfl, by unfold Zn.take; rw [h], hz, rfl, rfl, h1, h2, rfl, rfl⟩
theorem wM {z : Zn} (hz : z.ok) {order t i : Nat} (ht : t < 3) (h : iT z.l t (5 - order) order = none) (hd : dD z.l t order 5 = some i) (hi : i < z.l.length) (rest : Option Nat) : nV z order t (some i) (z.steal z.l[i] t) rest := by
 obtain ⟨b, h1, h2⟩ := kM hd
 have hb : z.l[i] = b := by
  have := gJ hi
  rw [h1] at this
  exact (gP this).symm
 obtain ⟨s1, s2, s3, s4, s5⟩ := Zn.lH hz (b := z.l[i]) ht
 obtain ⟨y, hy, hya, hyo⟩ := s5 i b h1
 have hlen : (z.steal z.l[i] t).y.length = z.y.length ∧ (z.steal z.l[i] t).l.length = z.l.length := by
  unfold Zn.steal
  split
  ·exact ⟨rfl, rfl⟩
  ·exact ⟨lX _ _ _ _ _, by simp⟩
 refine .inr ⟨i, y, rfl, ?_, s1, s3, s4, hy, by omega, hlen.1, hlen.2⟩
 unfold Zn.take
 rw [h, hd]
 simp only [h1, hb]

set_option maxHeartbeats 4000000 in
set_option maxRecDepth 100000 in
theorem Rf (a1 a2 : Option Addr) (n1 n2 c1 c2 : Nat) (z : Zn) (order t : Nat) (w : World) (hat : Dy w a1 a2 n1 n2 z) (hz : z.ok) (hor : order ≤ 4) (ht : t < 3) (hoth : vC w) :
  Calls Tryz.prog 178 #[.agg #[.int .i64 z.f, .int .i64 z.e, .slice a1 n1 c1, .slice a2 n2 c2], .int .i64 order, .int .i64 t] w fun ev w' =>
   (z.take order t = none ∧ ev = .returned (.tuple #[.agg #[.int .i64 0, .int .i64 0, .slice none 0 0, .slice none 0 0], .int .i64 0, .int .i64 6]) ∧ Below w.heap.size w w') ∨
   (∃ z' at_ a1' a2' n1' c1' c2', z.take order t = some (z', at_) ∧ ev = .returned (.tuple #[.agg #[.int .i64 z.f, .int .i64 z.e, .slice a1' n1' c1', .slice a2' n2 c2'], .int .i64 (at_ : Nat), .int .i64 0]) ∧ eU w' w.heap.size a1' a2' n1' n2 c1' c2' z' ∧ Below w.heap.size w w') := by
 have hlen : z.l.length ≤ 256 := gQ (nM.length_le hz.2 (fun b hb => (hz.2.fit b hb).1.2.2.1)) hz.1.e2
 have hee := hz.1.e2
 have l1 := hat.l1
 have l2 := hat.l2
 have hy32 : z.y.length ≤ 32 := by rw [hz.1.len]; omega
 obtain ⟨K3, K6, F3, F6, hsz, hbw⟩ := boxes2 w #[.int .i64 (z.f : Int), .int .i64 (z.e : Int), .slice a1 n1 c1, .slice a2 n2 c2] 102 #[.int .i64 0, .int .i64 0, .slice none 0 0, .slice none 0 0] 102
 have nC := hat.below hbw
 have d1 : decide ((4 : Int) < order) = false := decide_eq_false (by omega)
 have d2 : decide ((3 : Int) ≤ t) = false := decide_eq_false (by omega)
 have d3 : decide (4 < order) = false := decide_eq_false (by omega)
 have d4 : decide (3 ≤ t) = false := decide_eq_false (by omega)
 have HOT := gO hoth
 clear hat hoth
 go_enter Tryz.func178, Tryz.ntmps178
 go_wp2_with fail
 generalize (w.alloc (.cells #[.int .i64 (z.f : Int), .int .i64 (z.e : Int), .slice a1 n1 c1, .slice a2 n2 c2] 102)).alloc (.cells #[.int .i64 0, .int .i64 0, .slice none 0 0, .slice none 0 0] 102) = w0 at *
 refine (nD _ _ _ _ _ _ z _ nC hz).mono ?_
 rintro ev w1 ⟨rfl, hb1⟩
 have TK := aB K3 (by omega) hb1
 have TL := aB K6 (by omega) hb1
 have TM := aJ F3 (by omega) hb1
 have TN := aJ F6 (by omega) hb1
 have He := nC.below hb1
 have uY := Below.step hbw hb1
 have hB : w.heap.size + 2 ≤ w1.heap.size := by have := hb1.size; omega
 clear K3 K6 F3 F6 hb1 nC hbw hsz
 go_wp2_with fail
 refine (xJ _ _ _ _ _ _ z.f z.e z _ He (by omega) (by omega)).mono ?_
 rintro ev w5 ⟨a3, a4, c3, c4, rfl, hown, hb5⟩
 have TP := aB TK (by omega) hb5
 have TQ := aB TL (by omega) hb5
 have TR := aJ TM (by omega) hb5
 have TS := aJ TN (by omega) hb5
 have xE := Below.step uY hb5
 have hnn := (hown.ne (g := w.heap.size) (.inl (by omega)))
 have I1 : GInv w ((((w5.setCell ⟨w.heap.size, 0, none⟩ (.int .i64 z.f)).setCell ⟨w.heap.size, 1, none⟩ (.int .i64 z.e)).setCell ⟨w.heap.size, 2, none⟩ (.slice a3 n1 c3)).setCell ⟨w.heap.size, 3, none⟩ (.slice a4 n2 c4)) a3 a4 n1 n2 c3 c4 z := by
  have h5 := hb5.size
  exact ⟨aH (aH (aH (aH TP 0 _) 1 _) 2 _) 3 _, aG (aG (aG (aG TR _ _) _ _) _ _) _ _, aA (aA (aA (aA TQ (by omega) _ _) (by omega) _ _) (by omega) _ _) (by omega) _ _, aG (aG (aG (aG TS _ _) _ _) _ _) _ _, (((((hown.base hB).set hnn _ _).set hnn _ _).set hnn _ _).set hnn _ _), by simp only [World.size_setCell]; omega, Below.setCell (Below.setCell (Below.setCell (Below.setCell xE (by simp only; omega) _) (by simp only; omega) _) (by simp only; omega) _) (by simp only; omega) _⟩
 have HI := gO I1
 clear I1 TQ TS hown xE TK TL TM TN He uY hb5 hnn d1 d2 d3 d4
 go_wp2
 clear TP TR
 generalize (((w5.setCell ⟨w.heap.size, 0, none⟩ (.int .i64 z.f)).setCell ⟨w.heap.size, 1, none⟩ (.int .i64 z.e)).setCell ⟨w.heap.size, 2, none⟩ (.slice a3 n1 c3)).setCell ⟨w.heap.size, 3, none⟩ (.slice a4 n2 c4) = w6 at *
 go_loopw [10, 11] (fun s10 s11 wr => ∃ (r : Option Nat) (o : Nat), s10 = .int .i64 (tX r) ∧ s11 = .int .i64 (o : Int) ∧ order ≤ o ∧ o ≤ 5 ∧ Hid ((r = none ∧ iT z.l t (5 - order) order = iT z.l t (5 - o) o) ∨ ∃ i, r = some i ∧ iT z.l t (5 - order) order = some i) ∧ Hid (GInv w wr a3 a4 n1 n2 c3 c4 z)) (fun _ s11 _ => 6 - (intOf s11).toNat)
 case atStart => exact ⟨none, order, rfl, rfl, Nat.le_refl _, by omega, .inl ⟨rfl, rfl⟩, HI⟩
 case round =>
  obtain ⟨r, o, rfl, rfl, ho1, ho2, HR, HK⟩ := hrel
  clear HI
  cases r with
  | none =>
   by_cases ho4 : o ≤ 4
   ·have d1 : decide ((o : Int) ≤ 4) = true := decide_eq_true (by omega)
    have d2 : decide (o ≤ 4) = true := decide_eq_true (by omega)
    have k30 := HK.out.k3 0
    have k31 := HK.out.k3 1
    have k32 := HK.out.k3 2
    have k33 := HK.out.k3 3
    have hHi := HK.out.hi
    simp only [gB, gC, gD] at k30 k31 k32 k33
    simp only [tX]
    go_wp2_with fail
    refine (uV _ _ _ _ _ _ z.f z.e z o t _ HK.out.own.at (by omega)).mono ?_
    rintro ev w7 ⟨rfl, hb7⟩
    have HK7 := gO (HK.out.below hb7)
    rw [uZ]
    have hfu : Hid (iT z.l t (5 - o) o = match kV z.l o t with | some i => some i | none => iT z.l t (5 - (o + 1)) (o + 1)) := by
     unfold Hid
     rw [show 5 - o = (5 - (o + 1)) + 1 by omega]
     rfl
    clear hb7 HK k30 k31 k32 k33
    go_wp2
    go_roundw
    case rel =>
     refine ⟨kV z.l o t, o + 1, rfl, by go_num, by omega, by omega, ?_, HK7⟩
     rcases HR.out with ⟨_, h⟩ | ⟨i, h, _⟩
     ·rw [hfu.out] at h
      cases hc : kV z.l o t with
      | none => rw [hc] at h; exact .inl ⟨rfl, h⟩
      | some i => rw [hc] at h; exact .inr ⟨i, rfl, h⟩
     ·cases h
    case measure => simp [intOf]; omega
   ·have d1 : decide ((o : Int) ≤ 4) = false := decide_eq_false (by omega)
    have d2 : decide (o ≤ 4) = false := decide_eq_false (by omega)
    have HS : Hid (nV z order t none z (dD z.l t order 5)) := by
     refine .inl ⟨rfl, rfl, ?_, rfl⟩
     rcases HR.out with ⟨_, h⟩ | ⟨i, h, _⟩
     ·rw [h, show 5 - o = 0 by omega]; rfl
     ·cases h
    simp only [tX]
    clear HR
    have HK0 := HK
    clear HK
    go_wp2
    generalize wr = wq at *
    go_loopw [10, 12] (fun s10 s12 wr => ∃ (r : Option Nat) (y : Zn) (n : Nat), s10 = .int .i64 (tX r) ∧ s12 = .int .i64 ((n : Int) - 1) ∧ n ≤ 5 ∧ Hid (nV z order t r y (dD z.l t order n)) ∧ Hid (GInv w wr a3 a4 n1 n2 c3 c4 y)) (fun _ s12 _ => (intOf s12 + 1).toNat)
    case atStart => exact ⟨none, z, 5, rfl, rfl, Nat.le_refl _, HS, HK0⟩
    case round =>
     clear HS HK0
     obtain ⟨r, y, n, rfl, rfl, hn5, HS, HK⟩ := hrel
     cases r with
     | none =>
      obtain rfl : z = y := by
       rcases HS.out with ⟨_, h, _⟩ | ⟨i, b, h, _⟩
       ·exact h.symm
       ·cases h
      by_cases hno : order + 1 ≤ n
      ·obtain ⟨m, rfl⟩ : ∃ m, n = m + 1 := ⟨n - 1, by omega⟩
       have e1 : ((m + 1 : Nat) : Int) - 1 = (m : Int) := by omega
       have d1 : decide ((order : Int) ≤ m) = true := decide_eq_true (by omega)
       have d2 : decide (order ≤ m) = true := decide_eq_true (by omega)
       have hOt := (HOT.out.mono HK.out.bw (Nat.le_refl _)).at ht
       obtain ⟨o1, o2⟩ := hOt
       have hsz0 := (HOT.out.mono HK.out.bw (Nat.le_refl _)).sz
       have hfd : Hid (dD z.l t order (m + 1) = match kV z.l m (oth1 t) with | some i => some i | none => match kV z.l m (oth2 t) with | some i => some i | none => dD z.l t order m) := by
        unfold Hid
        conv => lhs; unfold dD
        rw [if_neg (by omega)]
        rfl
       have ht3 : (t : Int) < 3 := by omega
       rw [e1]
       simp only [tX]
       go_wp2
       clear o1 o2
       have hix := fun (W : World) => (idx2 (.int .i64 (oth1 t : Int)) (.int .i64 (oth2 t : Int)) W rfl rfl).1
       have ZI := fun (W : World) => (idx2 (.int .i64 (oth1 t : Int)) (.int .i64 (oth2 t : Int)) W rfl rfl).2
       generalize hO1 : oth1 t = O1 at *
       generalize hO2 : oth2 t = O2 at *
       generalize wr = wr1 at *
       go_loopw [10, 66] (fun s10 s66 wr => ∃ j : Nat, j ≤ 2 ∧ s66 = .int .i64 (j : Int) ∧ s10 = .int .i64 (-1) ∧ Hid (GInv w wr a3 a4 n1 n2 c3 c4 z) ∧ Hid (1 ≤ j → kV z.l m O1 = none) ∧ Hid (2 ≤ j → kV z.l m O2 = none)) (fun _ s66 _ => 2 - (intOf s66).toNat)
       case atStart => exact ⟨0, by omega, rfl, rfl, HK, (fun h => by omega), (fun h => by omega)⟩
       case round =>
        obtain ⟨j, hj2, rfl, rfl, Ew, HN1, HN2⟩ := hrel
        clear HK
        obtain rfl | rfl | rfl : j = 0 ∨ j = 1 ∨ j = 2 := by omega
        ·have hJ : ((0 : Nat) : Int) < 2 := by omega
         -- the inner search, at the index 0, for the type O1
         have k30 := Ew.out.k3 0
         have k31 := Ew.out.k3 1
         have k32 := Ew.out.k3 2
         have k33 := Ew.out.k3 3
         have hHi := Ew.out.hi
         simp only [gB, gC, gD] at k30 k31 k32 k33
         go_wp2_with fail
         refine (uV _ _ _ _ _ _ z.f z.e z m (O1) _ Ew.out.own.at (by omega)).mono ?_
         rintro ev w7 ⟨rfl, hb7⟩
         have HK7 := gO (Ew.out.below hb7)
         rw [uZ]
         have k70 := HK7.out.k3 0
         have k71 := HK7.out.k3 1
         have k72 := HK7.out.k3 2
         have k73 := HK7.out.k3 3
         have Rh := HK7.out.hi
         simp only [gB, gC, gD] at k70 k71 k72 k73
         clear hb7 Ew k30 k31 k32 k33
         cases hlo : kV z.l m (O1) with
         | none =>
          have HLO := gO hlo
          clear hlo
          simp only [tX]
          go_wp2
          go_roundw
          case rel => exact ⟨0 + 1, by omega, by go_num, rfl, HK7, (fun _ => HLO.out), (fun h => by omega)⟩
          case measure => simp [intOf]
         | some i =>
          have hil : i < z.l.length := by
           obtain ⟨b, hb, _⟩ := mW hlo
           exact (List.getElem?_eq_some_iff.1 hb).1
          have HS2 : Hid (nV z order t (some i) (z.steal z.l[i] t) (dD z.l t order m)) := by
           rcases HS.out with ⟨_, _, hu, hd⟩ | ⟨i', b', hr, _⟩
           ·refine wM hz ht hu (hd.trans ?_) hil _
            rw [hfd.out]
            rw [hlo]
           ·cases hr
          have hfe := Zn.lH hz (b := z.l[i]) ht
          have UR := gO hfe
          clear hlo hfe
          simp only [tX]
          go_wp2_with fail
          refine (lH (w.heap.size + 2) _ _ _ _ _ _ z i t hil _ HK7.out.own hz ht Rh).mono ?_
          rintro ev w8 ⟨rfl, wO, hb8⟩
          have HK8 := gO (HK7.out.Oz wO hb8 UR.out.2.2.1 UR.out.2.2.2.1)
          clear wO hb8 UR HK7 k70 k71 k72 k73
          dsimp only
          go_wp2
          go_roundw
          case rel => exact ⟨some i, _, m, rfl, by go_num, by omega, HS2, HK8⟩
          case measure => simp [intOf]

        ·have hJ : ((1 : Nat) : Int) < 2 := by omega
         -- the inner search, at the index 1, for the type O2
         have k30 := Ew.out.k3 0
         have k31 := Ew.out.k3 1
         have k32 := Ew.out.k3 2
         have k33 := Ew.out.k3 3
         have hHi := Ew.out.hi
         simp only [gB, gC, gD] at k30 k31 k32 k33
         go_wp2_with fail
         refine (uV _ _ _ _ _ _ z.f z.e z m (O2) _ Ew.out.own.at (by omega)).mono ?_
         rintro ev w7 ⟨rfl, hb7⟩
         have HK7 := gO (Ew.out.below hb7)
         rw [uZ]
         have k70 := HK7.out.k3 0
         have k71 := HK7.out.k3 1
         have k72 := HK7.out.k3 2
         have k73 := HK7.out.k3 3
         have Rh := HK7.out.hi
         simp only [gB, gC, gD] at k70 k71 k72 k73
         clear hb7 Ew k30 k31 k32 k33
         cases hlo : kV z.l m (O2) with
         | none =>
          have HLO := gO hlo
          clear hlo
          simp only [tX]
          go_wp2
          go_roundw
          case rel => exact ⟨1 + 1, by omega, by go_num, rfl, HK7, (fun _ => HN1.out (by omega)), (fun _ => HLO.out)⟩
          case measure => simp [intOf]
         | some i =>
          have hil : i < z.l.length := by
           obtain ⟨b, hb, _⟩ := mW hlo
           exact (List.getElem?_eq_some_iff.1 hb).1
          have HS2 : Hid (nV z order t (some i) (z.steal z.l[i] t) (dD z.l t order m)) := by
           rcases HS.out with ⟨_, _, hu, hd⟩ | ⟨i', b', hr, _⟩
           ·refine wM hz ht hu (hd.trans ?_) hil _
            rw [hfd.out]
            rw [HN1.out (by omega), hlo]
           ·cases hr
          have hfe := Zn.lH hz (b := z.l[i]) ht
          have UR := gO hfe
          clear hlo hfe
          simp only [tX]
          go_wp2_with fail
          refine (lH (w.heap.size + 2) _ _ _ _ _ _ z i t hil _ HK7.out.own hz ht Rh).mono ?_
          rintro ev w8 ⟨rfl, wO, hb8⟩
          have HK8 := gO (HK7.out.Oz wO hb8 UR.out.2.2.1 UR.out.2.2.2.1)
          clear wO hb8 UR HK7 k70 k71 k72 k73
          dsimp only
          go_wp2
          go_roundw
          case rel => exact ⟨some i, _, m, rfl, by go_num, by omega, HS2, HK8⟩
          case measure => simp [intOf]

        ·have HS2 : Hid (nV z order t none z (dD z.l t order m)) := by
          rcases HS.out with ⟨_, _, hu, hd⟩ | ⟨i', b', hr, _⟩
          ·refine .inl ⟨rfl, rfl, hu, hd.trans ?_⟩
           rw [hfd.out, HN1.out (by omega), HN2.out (by omega)]
          ·cases hr
         go_wp2
         go_roundw
         case rel => exact ⟨none, z, m, rfl, by go_num, by omega, HS2, Ew⟩
         case measure => simp [intOf]
      ·have d1 : decide ((order : Int) ≤ (n : Int) - 1) = false := decide_eq_false (by omega)
       have d5 : ¬ (order : Int) ≤ (n : Int) - 1 := by omega
       have HN : Hid (z.take order t = none) := by
        rcases HS.out with ⟨_, _, hu, hd⟩ | ⟨i', b', hr, _⟩
        ·unfold Hid Zn.take
         rw [hu, hd]
         have : dD z.l t order n = none := by
          cases n with
          | zero => rfl
          | succ m => unfold dD; rw [if_pos (by omega)]
         rw [this]
        ·cases hr
       have x6 := HK.out.k6
       have xf6 := HK.out.f6
       have hHi := HK.out.hi
       simp only [tX]
       go_wp2
       refine bodyPost_ret (v := .tuple #[.agg #[.int .i64 0, .int .i64 0, .slice none 0 0, .slice none 0 0], .int .i64 0, .int .i64 6]) (by simp [results, Tryz.results178, go_sem, x6]) rfl (.inl ⟨HN.out, rfl, ?_⟩)
       exact Below.setCell (Below.setCell (Below.setCell (Below.setCell HK.out.bw (by simp only; omega) _) (by simp only; omega) _) (by simp only; omega) _) (by simp only; omega) _
     | some i =>
      simp only [tX]
      -- the block is found, in the zone y as it is by now
      obtain ⟨b, hib, hcut, mO, Xv, hye, hyb, JR, hyl, hll⟩ : ∃ b, z.take order t = y.cut i order ∧ z.take order t = y.cut i order ∧ y.ok ∧ y.f = z.f ∧ y.e = z.e ∧ y.l[i]? = some b ∧ order ≤ b.o ∧ y.y.length = z.y.length ∧ y.l.length = z.l.length := by
       rcases HS.out with ⟨h, _⟩ | ⟨i', b, h, h1, h2, h3, h4, h5, h6, h7, h8⟩
       ·cases h
       ·obtain rfl : i = i' := by simpa using h
        exact ⟨b, h1, h1, h2, h3, h4, h5, h6, h7, h8⟩
      have HYF := gO Xv
      have HYE := gO hye
      clear Xv hye
      obtain ⟨hil, hbi⟩ := List.getElem?_eq_some_iff.1 hyb
      obtain ⟨bb, off, hb1, hbb, hc⟩ := aK aI (by decide) HK.out.own.at.r1 hil
      obtain rfl := hb1
      obtain ⟨hc0, hc1, hc2⟩ := bD hc
      rw [hbi] at hc0 hc1 hc2
      have hbm : b ∈ y.l := by rw [← hbi]; exact gL hil
      have hbf := mO.2.fit b hbm
      have hapart : ∀ x ∈ y.l.eraseIdx i, apartB b.a b.o x := fun x hx => by
       obtain ⟨j, hj, hne, rfl⟩ := List.mem_eraseIdx_iff_getElem.1 hx
       have := sK mO.2.sep hj hil hne
       rw [hbi] at this
       exact this
      have UU : Hid (z.take order t = some ({ y with l := bQ (y.l.eraseIdx i) b.a b.t order b.o }, b.a)) := by
       unfold Hid
       rw [hcut]
       unfold Zn.cut
       rw [hyb]
      have rU : Hid (nM y.f y.e (y.l.eraseIdx i)) := mO.2.sublist (List.eraseIdx_sublist _ _)
      have GY : Hid (bY y.f y.e b.a b.o) := hbf.1
      have Ov := gO hapart
      have hl1 := HK.out.own.l1
      have hl2 := HK.out.own.l2
      have hin : (i : Int) < n1 := by omega
      have hin2 : i < n1 := by omega
      have k32 := HK.out.k3 2
      have hHi := HK.out.hi
      simp only [gB, gC, gD] at k32
      have hwr0 : w.heap.size < wr.heap.size := by omega
      have hbn := aC wr (.cells #[.int .i64 (b.a : Int), .int .i64 (b.o : Int), .int .i64 (b.t : Int)] 63)
      have HQ : Hid (nH w (wr.alloc (.cells #[.int .i64 (b.a : Int), .int .i64 (b.o : Int), .int .i64 (b.t : Int)] 63)) wr.heap.size (some ⟨bb, off, none⟩) a4 n1 n2 c3 c4 y b.a b.o b.t) :=
       ⟨HK.out.below hbn, aY wr _ _, dK wr _ _, hHi, by simp, HK.out.own.ne (.inr (Nat.le_refl _))⟩
      clear hbi hyb hapart hc hbm hcut hib HS
      go_wp2_with fail
      clear hc0 hc1 hc2 k32 HK hbn
      generalize wr.alloc (.cells #[.int .i64 (b.a : Int), .int .i64 (b.o : Int), .int .i64 (b.t : Int)] 63) = w7 at *
      generalize wr.heap.size = B at *
      refine (qN (w.heap.size + 2) _ _ _ y.l i _ HQ.out.g.own.o1 hin2 (by omega) HQ.out.g.hi).mono ?_
      rintro ev w8 ⟨rfl, hownd, hgd⟩
      have HM := gO (HQ.out.grown hgd (l' := y.l.eraseIdx i) (by rw [List.length_eraseIdx_of_lt hil, hl1]) hownd (.inl rfl))
      have HF := gO HM.out.put3
      have m32 := HM.out.k3 2
      have f32 := HM.out.f3 2
      simp only [gB, gC, gD] at m32
      clear hownd hgd HQ
      go_wp2
      clear m32 f32 HM
      generalize w8.setCell ⟨w.heap.size, 2, none⟩ (.slice (some ⟨bb, off, none⟩) (n1 - 1) c3) = w9 at *
      go_loopw [16, 17] (fun _ _ wr => ∃ (l : List Bk) (o : Nat) (b1 : Option Addr) (m1 d1 : Nat), Hid (nH w wr B b1 a4 m1 n2 d1 c4 { y with l := l } b.a o b.t) ∧ order ≤ o ∧ Hid (nM y.f y.e l) ∧ Hid (bY y.f y.e b.a o) ∧ Hid (∀ x ∈ l, apartB b.a o x) ∧ Hid (bQ (y.l.eraseIdx i) b.a b.t order b.o = bQ l b.a b.t order o)) (fun _ _ wr => ((wr.cell? ⟨B, 1, none⟩).map fun v => (intOf v).toNat).getD 0)
      case atStart => exact ⟨y.l.eraseIdx i, b.o, _, n1 - 1, c3, HF, JR, rU, GY, Ov, rfl⟩
      case round =>
       clear HF rU GY Ov
       obtain ⟨l, o', b1, m1, d1, HQ, hoo, rU, GY, Ov, UW⟩ := hrel
       have hlo := HQ.out.lo
       have hBr := HQ.out.hB
       have aAx := HQ.out.g.hi
       have k150 := HQ.out.k15 0
       have k151 := HQ.out.k15 1
       have k152 := HQ.out.k15 2
       have f151 := HQ.out.f15 1
       simp only [gB, gC, gD] at k150 k151 k152
       by_cases hgt : order < o'
       ·obtain ⟨m, rfl⟩ : ∃ m, o' = m + 1 := ⟨o' - 1, by omega⟩
        have dgt : (order : Int) < (m : Int) + 1 := by omega
        have hm1 : ((m : Int) + 1) - 1 = (m : Int) := by omega
        have HQ2 := gO (HQ.out.put15 1 (m : Int) (a' := b.a) (o' := m) (t' := b.t) rfl)
        obtain ⟨s1, s2, s3⟩ := yI mO.1.e16 hbf.2 rU.out GY.out Ov.out
        have hm4 : m + 1 ≤ 4 := GY.out.1
        have Ey := GY.out
        obtain ⟨H, hH⟩ : ∃ H, (⟨b.a, m, b.t⟩ : Bk).fin = H := ⟨_, rfl⟩
        have hH2 : b.a + 2 ^ m = H := hH
        have aAz : H ≤ 300 := by have := o8 mO.1.e16 s2; have := mO.1.e2; omega
        rw [hH2] at s1 s3
        have Xw : Hid (bQ l b.a b.t order (m + 1) = bQ (bC l ⟨H, m, b.t⟩) b.a b.t order m) := by
         unfold Hid
         conv => lhs; unfold bQ
         rw [if_pos (by omega), hH2]
        have hlm : l.length = m1 := HQ.out.g.own.l1
        have TT : l.length ≤ 256 := gQ (nM.length_le rU.out (fun x hx => (rU.out.fit x hx).1.2.2.1)) mO.1.e2
        have HS1 := gO s1
        have HS2 := gO s2
        have HS3 := gO s3
        clear s1 s2 s3
        go_wp2_with fail
        have k15 := HQ2.out.k15
        have hB2 := HQ2.out.hB
        have aAA := mO.1.e2
        clear k150 k151 k152 f151
        generalize wr.setCell ⟨B, 1, none⟩ (.int .i64 (m : Int)) = wv at *
        have k150 := k15 0
        have k151 := k15 1
        have k152 := k15 2
        simp only [gB, gC, gD] at k150 k151 k152
        have hBne : B ≠ wv.heap.size := by omega
        go_region_held3 (fun w' => w'.cell? ⟨B, 0, none⟩ = some (.int .i64 (b.a : Int)) ∧ w'.cell? ⟨B, 1, none⟩ = some (.int .i64 (m : Int)) ∧ w'.cell? ⟨B, 2, none⟩ = some (.int .i64 (b.t : Int))) (first | exact ⟨k150, k151, k152⟩ | exact ⟨q0, q1, q2⟩ | exact ⟨aA (aA (aA CO hBne _ _) hBne _ _) hBne _ _ 0, aA (aA (aA CO hBne _ _) hBne _ _) hBne _ _ 1, aA (aA (aA CO hBne _ _) hBne _ _) hBne _ _ 2⟩ | go_keep) (first | (go_at_call 164; refine (iD ⟨b.a, m, b.t⟩ _ (by show m ≤ 4; omega) (by show b.a ≤ 1000; have := Ey.2.2.1; omega)).mono ?_; rintro ev wk ⟨rfl, hbk⟩; have Bj := Below.step ((Below.refl wv.heap.size wv).drew) hbk; have q0 := (Bj.cell (p := ⟨B, 0, none⟩) hB2).trans k150; have q1 := (Bj.cell (p := ⟨B, 1, none⟩) hB2).trans k151; have q2 := (Bj.cell (p := ⟨B, 2, none⟩) hB2).trans k152; have MW : B < wk.heap.size := gI hB2 Bj.size) | (go_at_call 164; refine (iD ⟨b.a, m, b.t⟩ _ (by show m ≤ 4; omega) (by show b.a ≤ 1000; have := Ey.2.2.1; omega)).mono ?_; rintro ev wk ⟨rfl, hbk⟩; have hbB := Below.step (aC wv (.cells #[.int .i64 0, .int .i64 0, .int .i64 0] 63)) (Below.step ((Below.refl _ _).drew) hbk); have q0 := (hbB.cell (p := ⟨B, 0, none⟩) hB2).trans k150; have q1 := (hbB.cell (p := ⟨B, 1, none⟩) hB2).trans k151; have q2 := (hbB.cell (p := ⟨B, 2, none⟩) hB2).trans k152; have MW : B < wk.heap.size := gI hB2 hbB.size; have CO := aB k15 hB2 hbB; have K16 := aB (aY wv #[.int .i64 0, .int .i64 0, .int .i64 0] 63) (show wv.heap.size < (wv.alloc (.cells #[.int .i64 0, .int .i64 0, .int .i64 0] 63)).heap.size by simp) (Below.step ((Below.refl _ _).drew) hbk); have F16 := aJ (dK wv #[.int .i64 0, .int .i64 0, .int .i64 0] 63) (show wv.heap.size < (wv.alloc (.cells #[.int .i64 0, .int .i64 0, .int .i64 0] 63)).heap.size by simp) (Below.step ((Below.refl _ _).drew) hbk); have Xx : wv.heap.size < wk.heap.size := gI (show wv.heap.size < (wv.alloc (.cells #[.int .i64 0, .int .i64 0, .int .i64 0] 63)).heap.size by simp) (Below.step ((Below.refl _ _).drew) hbk).size))
        all_goals rename_i hHeld
        all_goals clear hHeld
        ·have HQ4 : Hid (nH w (wk.alloc (.cells #[.int .i64 (H : Int), .int .i64 (m : Int), .int .i64 (b.t : Int)] 63)) B b1 a4 m1 n2 d1 c4 { y with l := l } b.a m b.t) := (HQ2.out.below Bj).below (aC wk _)
         have lQ := aY wk #[.int .i64 (H : Int), .int .i64 (m : Int), .int .i64 (b.t : Int)] 63
         have Hf : wk.heap.size < (wk.alloc (.cells #[.int .i64 (H : Int), .int .i64 (m : Int), .int .i64 (b.t : Int)] 63)).heap.size := by simp
         clear q0 q1 q2 Bj hbk HQ2 k150 k151 k152 k15
         generalize wk.heap.size = G at *
         generalize wk.alloc (.cells #[.int .i64 (H : Int), .int .i64 (m : Int), .int .i64 (b.t : Int)] 63) = wh at *
         -- the half is put back, from the world wh
         have k30 := HQ4.out.g.k3 0
         have k31 := HQ4.out.g.k3 1
         have k32 := HQ4.out.g.k3 2
         have k33 := HQ4.out.g.k3 3
         have UY := HQ4.out.g.hi
         have k160 := lQ 0
         have k161 := lQ 1
         have k162 := lQ 2
         simp only [gB, gC, gD] at k30 k31 k32 k33 k160 k161 k162
         go_wp2_with fail
         refine (find_ok _ _ _ _ _ _ y.f y.e { y with l := l } H _ HQ4.out.g.own.at (by omega) rU.out.rise (fun x hx => by have := (rU.out.fit x hx).1.2.2.1; have := mO.1.e2; omega) (by omega)).mono ?_
         rintro ev w8 ⟨rfl, hb8⟩
         have HQ5 := gO (HQ4.out.below hb8)
         have nX := aB lQ Hf hb8
         have Hg := gI Hf hb8.size
         clear hb8 HQ4 lQ k30 k31 k32 k33 k160 k161 k162 Hf
         have k32 := HQ5.out.g.k3 2
         have UZ := HQ5.out.g.hi
         have k160 := nX 0
         have k161 := nX 1
         have k162 := nX 2
         simp only [gB, gC, gD] at k32 k160 k161 k162
         have Hl : w.heap.size < w8.heap.size := by omega
         go_wp2_with fail
         have hbn := aC w8 (.cells #[.int .i64 (H : Int), .int .i64 (m : Int), .int .i64 (b.t : Int)] 63)
         have HQ6 := gO (HQ5.out.below hbn)
         have hnew : (w8.alloc (.cells #[.int .i64 (H : Int), .int .i64 (m : Int), .int .i64 (b.t : Int)] 63)).heap[w8.heap.size]? = some (.cells (aN ⟨H, m, b.t⟩).toArray 63 (0, 0)) := heap_alloc_new w8 _
         have hnn := (HQ5.out.g.own.ne (g := w8.heap.size) (.inr (Nat.le_refl _))).1
         clear HQ5 k32 k160 k161 k162 nX Hg Hl
         have hlbm : lb l H ≤ m1 := by have := jF l H; omega
         generalize w8.heap.size = G2 at *
         generalize w8.alloc (.cells #[.int .i64 (H : Int), .int .i64 (m : Int), .int .i64 (b.t : Int)] 63) = wn at *
         refine (kF (w.heap.size + 2) _ _ _ G2 (lb l H) l ⟨H, m, b.t⟩ _ HQ6.out.g.own.o1 hlbm (by omega) HQ6.out.g.hi hnew (fun e => hnn e.symm)).mono ?_
         rintro ev wi ⟨e1, f1, rfl, jI, hgi⟩
         have nG : (bC l ⟨H, m, b.t⟩).length = m1 + 1 := by unfold bC; rw [List.length_append, List.length_cons, List.length_take, List.length_drop]; have := jF l H; simp only; omega
         have HM2 := gO (HQ6.out.grown hgi (l' := bC l ⟨H, m, b.t⟩) nG jI (.inr ⟨by omega, fun x hx => tV (HS3.out x hx)⟩))
         have HF2 := gO HM2.out.put3
         have m32 := HM2.out.k3 2
         have f32 := HM2.out.f3 2
         simp only [gB, gC, gD] at m32
         clear HQ6 hnew hnn jI hgi
         go_wp2
         go_roundw
         case rel => exact ⟨bC l ⟨H, m, b.t⟩, m, e1, m1 + 1, f1, HF2, by omega, HS1, HS2, HS3, UW.out.trans Xw.out⟩
         case measure =>
          rw [show wr.cell? ⟨B, 1, none⟩ = some (.int .i64 ((m + 1 : Nat) : Int)) from HQ.out.k15 1, show (wi.setCell _ _).cell? ⟨B, 1, none⟩ = some (.int .i64 (m : Int)) from HF2.out.k15 1]
          simp [intOf]

        ·have CP := HQ2.out.g.own.ne (g := wv.heap.size) (.inr (Nat.le_refl _))
         have hG2 : w.heap.size + 2 ≤ wv.heap.size := HQ2.out.g.hi
         have HQ4 : Hid (nH w (((wk.setCell ⟨wv.heap.size, 0, none⟩ (.int .i64 (H : Int))).setCell ⟨wv.heap.size, 1, none⟩ (.int .i64 (m : Int))).setCell ⟨wv.heap.size, 2, none⟩ (.int .i64 (b.t : Int))) B b1 a4 m1 n2 d1 c4 { y with l := l } b.a m b.t) := (((HQ2.out.below hbB).vF hG2 (Ne.symm hBne) CP _ _).vF hG2 (Ne.symm hBne) CP _ _).vF hG2 (Ne.symm hBne) CP _ _
         have lQ : ∀ o, (((wk.setCell ⟨wv.heap.size, 0, none⟩ (.int .i64 (H : Int))).setCell ⟨wv.heap.size, 1, none⟩ (.int .i64 (m : Int))).setCell ⟨wv.heap.size, 2, none⟩ (.int .i64 (b.t : Int))).cell? ⟨wv.heap.size, o, none⟩ = (#[.int .i64 (H : Int), .int .i64 (m : Int), .int .i64 (b.t : Int)] : Array Value)[o]? := aH (aH (aH K16 0 _) 1 _) 2 _
         have Hf : wv.heap.size < (((wk.setCell ⟨wv.heap.size, 0, none⟩ (.int .i64 (H : Int))).setCell ⟨wv.heap.size, 1, none⟩ (.int .i64 (m : Int))).setCell ⟨wv.heap.size, 2, none⟩ (.int .i64 (b.t : Int))).heap.size := by simpa using Xx
         clear q0 q1 q2 hbB hbk HQ2 k150 k151 k152 k15 CO K16 F16 Xx CP hG2 hBne
         generalize ((wk.setCell ⟨wv.heap.size, 0, none⟩ (.int .i64 (H : Int))).setCell ⟨wv.heap.size, 1, none⟩ (.int .i64 (m : Int))).setCell ⟨wv.heap.size, 2, none⟩ (.int .i64 (b.t : Int)) = wh at *
         generalize wv.heap.size = G at *
         -- the half is put back, from the world wh
         have k30 := HQ4.out.g.k3 0
         have k31 := HQ4.out.g.k3 1
         have k32 := HQ4.out.g.k3 2
         have k33 := HQ4.out.g.k3 3
         have UY := HQ4.out.g.hi
         have k160 := lQ 0
         have k161 := lQ 1
         have k162 := lQ 2
         simp only [gB, gC, gD] at k30 k31 k32 k33 k160 k161 k162
         go_wp2_with fail
         refine (find_ok _ _ _ _ _ _ y.f y.e { y with l := l } H _ HQ4.out.g.own.at (by omega) rU.out.rise (fun x hx => by have := (rU.out.fit x hx).1.2.2.1; have := mO.1.e2; omega) (by omega)).mono ?_
         rintro ev w8 ⟨rfl, hb8⟩
         have HQ5 := gO (HQ4.out.below hb8)
         have nX := aB lQ Hf hb8
         have Hg := gI Hf hb8.size
         clear hb8 HQ4 lQ k30 k31 k32 k33 k160 k161 k162 Hf
         have k32 := HQ5.out.g.k3 2
         have UZ := HQ5.out.g.hi
         have k160 := nX 0
         have k161 := nX 1
         have k162 := nX 2
         simp only [gB, gC, gD] at k32 k160 k161 k162
         have Hl : w.heap.size < w8.heap.size := by omega
         go_wp2_with fail
         have hbn := aC w8 (.cells #[.int .i64 (H : Int), .int .i64 (m : Int), .int .i64 (b.t : Int)] 63)
         have HQ6 := gO (HQ5.out.below hbn)
         have hnew : (w8.alloc (.cells #[.int .i64 (H : Int), .int .i64 (m : Int), .int .i64 (b.t : Int)] 63)).heap[w8.heap.size]? = some (.cells (aN ⟨H, m, b.t⟩).toArray 63 (0, 0)) := heap_alloc_new w8 _
         have hnn := (HQ5.out.g.own.ne (g := w8.heap.size) (.inr (Nat.le_refl _))).1
         clear HQ5 k32 k160 k161 k162 nX Hg Hl
         have hlbm : lb l H ≤ m1 := by have := jF l H; omega
         generalize w8.heap.size = G2 at *
         generalize w8.alloc (.cells #[.int .i64 (H : Int), .int .i64 (m : Int), .int .i64 (b.t : Int)] 63) = wn at *
         refine (kF (w.heap.size + 2) _ _ _ G2 (lb l H) l ⟨H, m, b.t⟩ _ HQ6.out.g.own.o1 hlbm (by omega) HQ6.out.g.hi hnew (fun e => hnn e.symm)).mono ?_
         rintro ev wi ⟨e1, f1, rfl, jI, hgi⟩
         have nG : (bC l ⟨H, m, b.t⟩).length = m1 + 1 := by unfold bC; rw [List.length_append, List.length_cons, List.length_take, List.length_drop]; have := jF l H; simp only; omega
         have HM2 := gO (HQ6.out.grown hgi (l' := bC l ⟨H, m, b.t⟩) nG jI (.inr ⟨by omega, fun x hx => tV (HS3.out x hx)⟩))
         have HF2 := gO HM2.out.put3
         have m32 := HM2.out.k3 2
         have f32 := HM2.out.f3 2
         simp only [gB, gC, gD] at m32
         clear HQ6 hnew hnn jI hgi
         go_wp2
         go_roundw
         case rel => exact ⟨bC l ⟨H, m, b.t⟩, m, e1, m1 + 1, f1, HF2, by omega, HS1, HS2, HS3, UW.out.trans Xw.out⟩
         case measure =>
          rw [show wr.cell? ⟨B, 1, none⟩ = some (.int .i64 ((m + 1 : Nat) : Int)) from HQ.out.k15 1, show (wi.setCell _ _).cell? ⟨B, 1, none⟩ = some (.int .i64 (m : Int)) from HF2.out.k15 1]
          simp [intOf]

       ·obtain rfl : o' = order := by omega
        have dgt : ¬ (o' : Int) < o' := by omega
        have k30 := HQ.out.g.k3 0
        have k31 := HQ.out.g.k3 1
        have k32 := HQ.out.g.k3 2
        have k33 := HQ.out.g.k3 3
        have k6 := HQ.out.g.k6
        have f6 := HQ.out.g.f6
        simp only [gB, gC, gD] at k30 k31 k32 k33
        go_wp2_with fail
        have hsd : bQ l b.a b.t o' o' = l := by
         cases o' with
         | zero => rfl
         | succ o' => unfold bQ; rw [if_neg (by omega)]
        have Xy : Hid (z.take o' t = some ({ y with l := l }, b.a)) := by
         unfold Hid
         rw [UU.out, UW.out, hsd]
        clear hsd
        go_region
        go_wp2
        refine bodyPost_ret (v := .tuple #[.agg #[.int .i64 y.f, .int .i64 y.e, .slice b1 m1 d1, .slice a4 n2 c4], .int .i64 b.a, .int .i64 0]) (by simp [results, Tryz.results178, go_sem, k6]) rfl (.inr ⟨{ y with l := l }, b.a, b1, a4, m1, d1, c4, Xy.out, by rw [HYF.out, HYE.out], ?_, ?_⟩)
        ·have no := HQ.out.g.own.ne (g := w.heap.size + 1) (.inl (by omega))
         exact (((((HQ.out.g.own.set no _ _).set no _ _).set no _ _).set no _ _).below ((Below.refl _ _).drew)).base (by omega)
        ·exact Below.drew (Below.setCell (Below.setCell (Below.setCell (Below.setCell HQ.out.g.bw (by simp only; omega) _) (by simp only; omega) _) (by simp only; omega) _) (by simp only; omega) _)

  | some i =>
   have HS : Hid (nV z order t (some i) z (dD z.l t order 5)) := by
    rcases HR.out with ⟨h, _⟩ | ⟨j, h, hj⟩
    ·cases h
    ·obtain rfl : i = j := by simpa using h
     exact KW hz hj _
   simp only [tX]
   have HK0 := HK
   clear HK
   go_wp2
   generalize wr = wq at *
   go_loopw [10, 12] (fun s10 s12 wr => ∃ (y : Zn) (n : Nat), s10 = .int .i64 (i : Int) ∧ s12 = .int .i64 (n : Int) ∧ Hid (nV z order t (some i) y (dD z.l t order 5)) ∧ Hid (GInv w wr a3 a4 n1 n2 c3 c4 y)) (fun _ _ _ => 0)
   case atStart => exact ⟨z, 4, rfl, rfl, HS, HK0⟩
   case round =>
    clear HS HK0
    obtain ⟨y, n, rfl, rfl, HS, HK⟩ := hrel
    have hi0 : ¬ (i : Int) < 0 := by omega
    first
     |skip
      have hdone := trivial
      -- the block is found, in the zone y as it is by now
      obtain ⟨b, hib, hcut, mO, Xv, hye, hyb, JR, hyl, hll⟩ : ∃ b, z.take order t = y.cut i order ∧ z.take order t = y.cut i order ∧ y.ok ∧ y.f = z.f ∧ y.e = z.e ∧ y.l[i]? = some b ∧ order ≤ b.o ∧ y.y.length = z.y.length ∧ y.l.length = z.l.length := by
       rcases HS.out with ⟨h, _⟩ | ⟨i', b, h, h1, h2, h3, h4, h5, h6, h7, h8⟩
       ·cases h
       ·obtain rfl : i = i' := by simpa using h
        exact ⟨b, h1, h1, h2, h3, h4, h5, h6, h7, h8⟩
      have HYF := gO Xv
      have HYE := gO hye
      clear Xv hye
      obtain ⟨hil, hbi⟩ := List.getElem?_eq_some_iff.1 hyb
      obtain ⟨bb, off, hb1, hbb, hc⟩ := aK aI (by decide) HK.out.own.at.r1 hil
      obtain rfl := hb1
      obtain ⟨hc0, hc1, hc2⟩ := bD hc
      rw [hbi] at hc0 hc1 hc2
      have hbm : b ∈ y.l := by rw [← hbi]; exact gL hil
      have hbf := mO.2.fit b hbm
      have hapart : ∀ x ∈ y.l.eraseIdx i, apartB b.a b.o x := fun x hx => by
       obtain ⟨j, hj, hne, rfl⟩ := List.mem_eraseIdx_iff_getElem.1 hx
       have := sK mO.2.sep hj hil hne
       rw [hbi] at this
       exact this
      have UU : Hid (z.take order t = some ({ y with l := bQ (y.l.eraseIdx i) b.a b.t order b.o }, b.a)) := by
       unfold Hid
       rw [hcut]
       unfold Zn.cut
       rw [hyb]
      have rU : Hid (nM y.f y.e (y.l.eraseIdx i)) := mO.2.sublist (List.eraseIdx_sublist _ _)
      have GY : Hid (bY y.f y.e b.a b.o) := hbf.1
      have Ov := gO hapart
      have hl1 := HK.out.own.l1
      have hl2 := HK.out.own.l2
      have hin : (i : Int) < n1 := by omega
      have hin2 : i < n1 := by omega
      have k32 := HK.out.k3 2
      have hHi := HK.out.hi
      simp only [gB, gC, gD] at k32
      have hwr0 : w.heap.size < wr.heap.size := by omega
      have hbn := aC wr (.cells #[.int .i64 (b.a : Int), .int .i64 (b.o : Int), .int .i64 (b.t : Int)] 63)
      have HQ : Hid (nH w (wr.alloc (.cells #[.int .i64 (b.a : Int), .int .i64 (b.o : Int), .int .i64 (b.t : Int)] 63)) wr.heap.size (some ⟨bb, off, none⟩) a4 n1 n2 c3 c4 y b.a b.o b.t) :=
       ⟨HK.out.below hbn, aY wr _ _, dK wr _ _, hHi, by simp, HK.out.own.ne (.inr (Nat.le_refl _))⟩
      clear hbi hyb hapart hc hbm hcut hib HS
      go_wp2_with fail
      clear hc0 hc1 hc2 k32 HK hbn
      generalize wr.alloc (.cells #[.int .i64 (b.a : Int), .int .i64 (b.o : Int), .int .i64 (b.t : Int)] 63) = w7 at *
      generalize wr.heap.size = B at *
      refine (qN (w.heap.size + 2) _ _ _ y.l i _ HQ.out.g.own.o1 hin2 (by omega) HQ.out.g.hi).mono ?_
      rintro ev w8 ⟨rfl, hownd, hgd⟩
      have HM := gO (HQ.out.grown hgd (l' := y.l.eraseIdx i) (by rw [List.length_eraseIdx_of_lt hil, hl1]) hownd (.inl rfl))
      have HF := gO HM.out.put3
      have m32 := HM.out.k3 2
      have f32 := HM.out.f3 2
      simp only [gB, gC, gD] at m32
      clear hownd hgd HQ
      go_wp2
      clear m32 f32 HM
      generalize w8.setCell ⟨w.heap.size, 2, none⟩ (.slice (some ⟨bb, off, none⟩) (n1 - 1) c3) = w9 at *
      go_loopw [16, 17] (fun _ _ wr => ∃ (l : List Bk) (o : Nat) (b1 : Option Addr) (m1 d1 : Nat), Hid (nH w wr B b1 a4 m1 n2 d1 c4 { y with l := l } b.a o b.t) ∧ order ≤ o ∧ Hid (nM y.f y.e l) ∧ Hid (bY y.f y.e b.a o) ∧ Hid (∀ x ∈ l, apartB b.a o x) ∧ Hid (bQ (y.l.eraseIdx i) b.a b.t order b.o = bQ l b.a b.t order o)) (fun _ _ wr => ((wr.cell? ⟨B, 1, none⟩).map fun v => (intOf v).toNat).getD 0)
      case atStart => exact ⟨y.l.eraseIdx i, b.o, _, n1 - 1, c3, HF, JR, rU, GY, Ov, rfl⟩
      case round =>
       clear HF rU GY Ov
       obtain ⟨l, o', b1, m1, d1, HQ, hoo, rU, GY, Ov, UW⟩ := hrel
       have hlo := HQ.out.lo
       have hBr := HQ.out.hB
       have aAx := HQ.out.g.hi
       have k150 := HQ.out.k15 0
       have k151 := HQ.out.k15 1
       have k152 := HQ.out.k15 2
       have f151 := HQ.out.f15 1
       simp only [gB, gC, gD] at k150 k151 k152
       by_cases hgt : order < o'
       ·obtain ⟨m, rfl⟩ : ∃ m, o' = m + 1 := ⟨o' - 1, by omega⟩
        have dgt : (order : Int) < (m : Int) + 1 := by omega
        have hm1 : ((m : Int) + 1) - 1 = (m : Int) := by omega
        have HQ2 := gO (HQ.out.put15 1 (m : Int) (a' := b.a) (o' := m) (t' := b.t) rfl)
        obtain ⟨s1, s2, s3⟩ := yI mO.1.e16 hbf.2 rU.out GY.out Ov.out
        have hm4 : m + 1 ≤ 4 := GY.out.1
        have Ey := GY.out
        obtain ⟨H, hH⟩ : ∃ H, (⟨b.a, m, b.t⟩ : Bk).fin = H := ⟨_, rfl⟩
        have hH2 : b.a + 2 ^ m = H := hH
        have aAz : H ≤ 300 := by have := o8 mO.1.e16 s2; have := mO.1.e2; omega
        rw [hH2] at s1 s3
        have Xw : Hid (bQ l b.a b.t order (m + 1) = bQ (bC l ⟨H, m, b.t⟩) b.a b.t order m) := by
         unfold Hid
         conv => lhs; unfold bQ
         rw [if_pos (by omega), hH2]
        have hlm : l.length = m1 := HQ.out.g.own.l1
        have TT : l.length ≤ 256 := gQ (nM.length_le rU.out (fun x hx => (rU.out.fit x hx).1.2.2.1)) mO.1.e2
        have HS1 := gO s1
        have HS2 := gO s2
        have HS3 := gO s3
        clear s1 s2 s3
        go_wp2_with fail
        have k15 := HQ2.out.k15
        have hB2 := HQ2.out.hB
        have aAA := mO.1.e2
        clear k150 k151 k152 f151
        generalize wr.setCell ⟨B, 1, none⟩ (.int .i64 (m : Int)) = wv at *
        have k150 := k15 0
        have k151 := k15 1
        have k152 := k15 2
        simp only [gB, gC, gD] at k150 k151 k152
        have hBne : B ≠ wv.heap.size := by omega
        go_region_held3 (fun w' => w'.cell? ⟨B, 0, none⟩ = some (.int .i64 (b.a : Int)) ∧ w'.cell? ⟨B, 1, none⟩ = some (.int .i64 (m : Int)) ∧ w'.cell? ⟨B, 2, none⟩ = some (.int .i64 (b.t : Int))) (first | exact ⟨k150, k151, k152⟩ | exact ⟨q0, q1, q2⟩ | exact ⟨aA (aA (aA CO hBne _ _) hBne _ _) hBne _ _ 0, aA (aA (aA CO hBne _ _) hBne _ _) hBne _ _ 1, aA (aA (aA CO hBne _ _) hBne _ _) hBne _ _ 2⟩ | go_keep) (first | (go_at_call 164; refine (iD ⟨b.a, m, b.t⟩ _ (by show m ≤ 4; omega) (by show b.a ≤ 1000; have := Ey.2.2.1; omega)).mono ?_; rintro ev wk ⟨rfl, hbk⟩; have Bj := Below.step ((Below.refl wv.heap.size wv).drew) hbk; have q0 := (Bj.cell (p := ⟨B, 0, none⟩) hB2).trans k150; have q1 := (Bj.cell (p := ⟨B, 1, none⟩) hB2).trans k151; have q2 := (Bj.cell (p := ⟨B, 2, none⟩) hB2).trans k152; have MW : B < wk.heap.size := gI hB2 Bj.size) | (go_at_call 164; refine (iD ⟨b.a, m, b.t⟩ _ (by show m ≤ 4; omega) (by show b.a ≤ 1000; have := Ey.2.2.1; omega)).mono ?_; rintro ev wk ⟨rfl, hbk⟩; have hbB := Below.step (aC wv (.cells #[.int .i64 0, .int .i64 0, .int .i64 0] 63)) (Below.step ((Below.refl _ _).drew) hbk); have q0 := (hbB.cell (p := ⟨B, 0, none⟩) hB2).trans k150; have q1 := (hbB.cell (p := ⟨B, 1, none⟩) hB2).trans k151; have q2 := (hbB.cell (p := ⟨B, 2, none⟩) hB2).trans k152; have MW : B < wk.heap.size := gI hB2 hbB.size; have CO := aB k15 hB2 hbB; have K16 := aB (aY wv #[.int .i64 0, .int .i64 0, .int .i64 0] 63) (show wv.heap.size < (wv.alloc (.cells #[.int .i64 0, .int .i64 0, .int .i64 0] 63)).heap.size by simp) (Below.step ((Below.refl _ _).drew) hbk); have F16 := aJ (dK wv #[.int .i64 0, .int .i64 0, .int .i64 0] 63) (show wv.heap.size < (wv.alloc (.cells #[.int .i64 0, .int .i64 0, .int .i64 0] 63)).heap.size by simp) (Below.step ((Below.refl _ _).drew) hbk); have Xx : wv.heap.size < wk.heap.size := gI (show wv.heap.size < (wv.alloc (.cells #[.int .i64 0, .int .i64 0, .int .i64 0] 63)).heap.size by simp) (Below.step ((Below.refl _ _).drew) hbk).size))
        all_goals rename_i hHeld
        all_goals clear hHeld
        ·have HQ4 : Hid (nH w (wk.alloc (.cells #[.int .i64 (H : Int), .int .i64 (m : Int), .int .i64 (b.t : Int)] 63)) B b1 a4 m1 n2 d1 c4 { y with l := l } b.a m b.t) := (HQ2.out.below Bj).below (aC wk _)
         have lQ := aY wk #[.int .i64 (H : Int), .int .i64 (m : Int), .int .i64 (b.t : Int)] 63
         have Hf : wk.heap.size < (wk.alloc (.cells #[.int .i64 (H : Int), .int .i64 (m : Int), .int .i64 (b.t : Int)] 63)).heap.size := by simp
         clear q0 q1 q2 Bj hbk HQ2 k150 k151 k152 k15
         generalize wk.heap.size = G at *
         generalize wk.alloc (.cells #[.int .i64 (H : Int), .int .i64 (m : Int), .int .i64 (b.t : Int)] 63) = wh at *
         -- the half is put back, from the world wh
         have k30 := HQ4.out.g.k3 0
         have k31 := HQ4.out.g.k3 1
         have k32 := HQ4.out.g.k3 2
         have k33 := HQ4.out.g.k3 3
         have UY := HQ4.out.g.hi
         have k160 := lQ 0
         have k161 := lQ 1
         have k162 := lQ 2
         simp only [gB, gC, gD] at k30 k31 k32 k33 k160 k161 k162
         go_wp2_with fail
         refine (find_ok _ _ _ _ _ _ y.f y.e { y with l := l } H _ HQ4.out.g.own.at (by omega) rU.out.rise (fun x hx => by have := (rU.out.fit x hx).1.2.2.1; have := mO.1.e2; omega) (by omega)).mono ?_
         rintro ev w8 ⟨rfl, hb8⟩
         have HQ5 := gO (HQ4.out.below hb8)
         have nX := aB lQ Hf hb8
         have Hg := gI Hf hb8.size
         clear hb8 HQ4 lQ k30 k31 k32 k33 k160 k161 k162 Hf
         have k32 := HQ5.out.g.k3 2
         have UZ := HQ5.out.g.hi
         have k160 := nX 0
         have k161 := nX 1
         have k162 := nX 2
         simp only [gB, gC, gD] at k32 k160 k161 k162
         have Hl : w.heap.size < w8.heap.size := by omega
         go_wp2_with fail
         have hbn := aC w8 (.cells #[.int .i64 (H : Int), .int .i64 (m : Int), .int .i64 (b.t : Int)] 63)
         have HQ6 := gO (HQ5.out.below hbn)
         have hnew : (w8.alloc (.cells #[.int .i64 (H : Int), .int .i64 (m : Int), .int .i64 (b.t : Int)] 63)).heap[w8.heap.size]? = some (.cells (aN ⟨H, m, b.t⟩).toArray 63 (0, 0)) := heap_alloc_new w8 _
         have hnn := (HQ5.out.g.own.ne (g := w8.heap.size) (.inr (Nat.le_refl _))).1
         clear HQ5 k32 k160 k161 k162 nX Hg Hl
         have hlbm : lb l H ≤ m1 := by have := jF l H; omega
         generalize w8.heap.size = G2 at *
         generalize w8.alloc (.cells #[.int .i64 (H : Int), .int .i64 (m : Int), .int .i64 (b.t : Int)] 63) = wn at *
         refine (kF (w.heap.size + 2) _ _ _ G2 (lb l H) l ⟨H, m, b.t⟩ _ HQ6.out.g.own.o1 hlbm (by omega) HQ6.out.g.hi hnew (fun e => hnn e.symm)).mono ?_
         rintro ev wi ⟨e1, f1, rfl, jI, hgi⟩
         have nG : (bC l ⟨H, m, b.t⟩).length = m1 + 1 := by unfold bC; rw [List.length_append, List.length_cons, List.length_take, List.length_drop]; have := jF l H; simp only; omega
         have HM2 := gO (HQ6.out.grown hgi (l' := bC l ⟨H, m, b.t⟩) nG jI (.inr ⟨by omega, fun x hx => tV (HS3.out x hx)⟩))
         have HF2 := gO HM2.out.put3
         have m32 := HM2.out.k3 2
         have f32 := HM2.out.f3 2
         simp only [gB, gC, gD] at m32
         clear HQ6 hnew hnn jI hgi
         go_wp2
         go_roundw
         case rel => exact ⟨bC l ⟨H, m, b.t⟩, m, e1, m1 + 1, f1, HF2, by omega, HS1, HS2, HS3, UW.out.trans Xw.out⟩
         case measure =>
          rw [show wr.cell? ⟨B, 1, none⟩ = some (.int .i64 ((m + 1 : Nat) : Int)) from HQ.out.k15 1, show (wi.setCell _ _).cell? ⟨B, 1, none⟩ = some (.int .i64 (m : Int)) from HF2.out.k15 1]
          simp [intOf]

        ·have CP := HQ2.out.g.own.ne (g := wv.heap.size) (.inr (Nat.le_refl _))
         have hG2 : w.heap.size + 2 ≤ wv.heap.size := HQ2.out.g.hi
         have HQ4 : Hid (nH w (((wk.setCell ⟨wv.heap.size, 0, none⟩ (.int .i64 (H : Int))).setCell ⟨wv.heap.size, 1, none⟩ (.int .i64 (m : Int))).setCell ⟨wv.heap.size, 2, none⟩ (.int .i64 (b.t : Int))) B b1 a4 m1 n2 d1 c4 { y with l := l } b.a m b.t) := (((HQ2.out.below hbB).vF hG2 (Ne.symm hBne) CP _ _).vF hG2 (Ne.symm hBne) CP _ _).vF hG2 (Ne.symm hBne) CP _ _
         have lQ : ∀ o, (((wk.setCell ⟨wv.heap.size, 0, none⟩ (.int .i64 (H : Int))).setCell ⟨wv.heap.size, 1, none⟩ (.int .i64 (m : Int))).setCell ⟨wv.heap.size, 2, none⟩ (.int .i64 (b.t : Int))).cell? ⟨wv.heap.size, o, none⟩ = (#[.int .i64 (H : Int), .int .i64 (m : Int), .int .i64 (b.t : Int)] : Array Value)[o]? := aH (aH (aH K16 0 _) 1 _) 2 _
         have Hf : wv.heap.size < (((wk.setCell ⟨wv.heap.size, 0, none⟩ (.int .i64 (H : Int))).setCell ⟨wv.heap.size, 1, none⟩ (.int .i64 (m : Int))).setCell ⟨wv.heap.size, 2, none⟩ (.int .i64 (b.t : Int))).heap.size := by simpa using Xx
         clear q0 q1 q2 hbB hbk HQ2 k150 k151 k152 k15 CO K16 F16 Xx CP hG2 hBne
         generalize ((wk.setCell ⟨wv.heap.size, 0, none⟩ (.int .i64 (H : Int))).setCell ⟨wv.heap.size, 1, none⟩ (.int .i64 (m : Int))).setCell ⟨wv.heap.size, 2, none⟩ (.int .i64 (b.t : Int)) = wh at *
         generalize wv.heap.size = G at *
         -- the half is put back, from the world wh
         have k30 := HQ4.out.g.k3 0
         have k31 := HQ4.out.g.k3 1
         have k32 := HQ4.out.g.k3 2
         have k33 := HQ4.out.g.k3 3
         have UY := HQ4.out.g.hi
         have k160 := lQ 0
         have k161 := lQ 1
         have k162 := lQ 2
         simp only [gB, gC, gD] at k30 k31 k32 k33 k160 k161 k162
         go_wp2_with fail
         refine (find_ok _ _ _ _ _ _ y.f y.e { y with l := l } H _ HQ4.out.g.own.at (by omega) rU.out.rise (fun x hx => by have := (rU.out.fit x hx).1.2.2.1; have := mO.1.e2; omega) (by omega)).mono ?_
         rintro ev w8 ⟨rfl, hb8⟩
         have HQ5 := gO (HQ4.out.below hb8)
         have nX := aB lQ Hf hb8
         have Hg := gI Hf hb8.size
         clear hb8 HQ4 lQ k30 k31 k32 k33 k160 k161 k162 Hf
         have k32 := HQ5.out.g.k3 2
         have UZ := HQ5.out.g.hi
         have k160 := nX 0
         have k161 := nX 1
         have k162 := nX 2
         simp only [gB, gC, gD] at k32 k160 k161 k162
         have Hl : w.heap.size < w8.heap.size := by omega
         go_wp2_with fail
         have hbn := aC w8 (.cells #[.int .i64 (H : Int), .int .i64 (m : Int), .int .i64 (b.t : Int)] 63)
         have HQ6 := gO (HQ5.out.below hbn)
         have hnew : (w8.alloc (.cells #[.int .i64 (H : Int), .int .i64 (m : Int), .int .i64 (b.t : Int)] 63)).heap[w8.heap.size]? = some (.cells (aN ⟨H, m, b.t⟩).toArray 63 (0, 0)) := heap_alloc_new w8 _
         have hnn := (HQ5.out.g.own.ne (g := w8.heap.size) (.inr (Nat.le_refl _))).1
         clear HQ5 k32 k160 k161 k162 nX Hg Hl
         have hlbm : lb l H ≤ m1 := by have := jF l H; omega
         generalize w8.heap.size = G2 at *
         generalize w8.alloc (.cells #[.int .i64 (H : Int), .int .i64 (m : Int), .int .i64 (b.t : Int)] 63) = wn at *
         refine (kF (w.heap.size + 2) _ _ _ G2 (lb l H) l ⟨H, m, b.t⟩ _ HQ6.out.g.own.o1 hlbm (by omega) HQ6.out.g.hi hnew (fun e => hnn e.symm)).mono ?_
         rintro ev wi ⟨e1, f1, rfl, jI, hgi⟩
         have nG : (bC l ⟨H, m, b.t⟩).length = m1 + 1 := by unfold bC; rw [List.length_append, List.length_cons, List.length_take, List.length_drop]; have := jF l H; simp only; omega
         have HM2 := gO (HQ6.out.grown hgi (l' := bC l ⟨H, m, b.t⟩) nG jI (.inr ⟨by omega, fun x hx => tV (HS3.out x hx)⟩))
         have HF2 := gO HM2.out.put3
         have m32 := HM2.out.k3 2
         have f32 := HM2.out.f3 2
         simp only [gB, gC, gD] at m32
         clear HQ6 hnew hnn jI hgi
         go_wp2
         go_roundw
         case rel => exact ⟨bC l ⟨H, m, b.t⟩, m, e1, m1 + 1, f1, HF2, by omega, HS1, HS2, HS3, UW.out.trans Xw.out⟩
         case measure =>
          rw [show wr.cell? ⟨B, 1, none⟩ = some (.int .i64 ((m + 1 : Nat) : Int)) from HQ.out.k15 1, show (wi.setCell _ _).cell? ⟨B, 1, none⟩ = some (.int .i64 (m : Int)) from HF2.out.k15 1]
          simp [intOf]

       ·obtain rfl : o' = order := by omega
        have dgt : ¬ (o' : Int) < o' := by omega
        have k30 := HQ.out.g.k3 0
        have k31 := HQ.out.g.k3 1
        have k32 := HQ.out.g.k3 2
        have k33 := HQ.out.g.k3 3
        have k6 := HQ.out.g.k6
        have f6 := HQ.out.g.f6
        simp only [gB, gC, gD] at k30 k31 k32 k33
        go_wp2_with fail
        have hsd : bQ l b.a b.t o' o' = l := by
         cases o' with
         | zero => rfl
         | succ o' => unfold bQ; rw [if_neg (by omega)]
        have Xy : Hid (z.take o' t = some ({ y with l := l }, b.a)) := by
         unfold Hid
         rw [UU.out, UW.out, hsd]
        clear hsd
        go_region
        go_wp2
        refine bodyPost_ret (v := .tuple #[.agg #[.int .i64 y.f, .int .i64 y.e, .slice b1 m1 d1, .slice a4 n2 c4], .int .i64 b.a, .int .i64 0]) (by simp [results, Tryz.results178, go_sem, k6]) rfl (.inr ⟨{ y with l := l }, b.a, b1, a4, m1, d1, c4, Xy.out, by rw [HYF.out, HYE.out], ?_, ?_⟩)
        ·have no := HQ.out.g.own.ne (g := w.heap.size + 1) (.inl (by omega))
         exact (((((HQ.out.g.own.set no _ _).set no _ _).set no _ _).set no _ _).below ((Below.refl _ _).drew)).base (by omega)
        ·exact Below.drew (Below.setCell (Below.setCell (Below.setCell (Below.setCell HQ.out.g.bw (by simp only; omega) _) (by simp only; omega) _) (by simp only; omega) _) (by simp only; omega) _)
end
end Go.Proofs.YtcmpmobhongkiaaGreatDoor
