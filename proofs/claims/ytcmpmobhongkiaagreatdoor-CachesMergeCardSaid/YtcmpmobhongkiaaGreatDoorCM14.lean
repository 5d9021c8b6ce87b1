/- texts of this claim, joined. -/
import Derived.Test.YtcmpmobhongkiaaGreatDoorCM0
import Derived.Test.YtcmpmobhongkiaaGreatDoorCM12
import Derived.Deep.RegionHeld3
set_option linter.unusedVariables false
set_option linter.unusedSimpArgs false
namespace Go.Proofs.YtcmpmobhongkiaaGreatDoor
section
open Go.RowKit

theorem idx2 (x y : Value) (W : World) (hx : x.oneCell' = true) (hy : y.oneCell' = true) : (Sem.run Tryz.prog (Instr.index 250 (.agg #[x, y]) (.int .i64 0)) W = .ok x W) ∧ (Sem.run Tryz.prog (Instr.index 250 (.agg #[x, y]) (.int .i64 1)) W = .ok y W) := by
 obtain ⟨i0, hi, hz, hsize, hby⟩ := info_parts l7
 constructor <;> simp [Instr.index, run_underlying Tryz.underlying250, sizeOf, typeInfo, hi, hsize, part, go_sem]

def oQ (z : Zn) (order t : Nat) (r : Option Nat) (y : Zn) (rest : Option Nat) : Prop :=
 (r = none ∧ y = z ∧ jH z.l t (5 - order) order = none ∧ dJ z.l t order 5 = rest) ∨
 (∃ i b, r = some i ∧ z.take order t = y.cut i order ∧ y.ok ∧ y.f = z.f ∧ y.e = z.e ∧ y.l[i]? = some b ∧ order ≤ b.o ∧ y.y.length = z.y.length ∧ y.l.length = z.l.length)

theorem MR {z : Zn} (hz : z.ok) {order t i : Nat} (h : jH z.l t (5 - order) order = some i) (rest : Option Nat) : oQ z order t (some i) z rest := by
 obtain ⟨b, h1, h2, _⟩ := mW h
 exact .inr ⟨i, b, rfl, by unfold Zn.take; rw [h], hz, rfl, rfl, h1, h2, rfl, rfl⟩
theorem xQ {z : Zn} (hz : z.ok) {order t i : Nat} (ht : t < 3) (h : jH z.l t (5 - order) order = none) (hd : dJ z.l t order 5 = some i) (hi : i < z.l.length) (rest : Option Nat) : oQ z order t (some i) (z.steal z.l[i] t) rest := by
 obtain ⟨b, h1, h2⟩ := kX hd
 have hb : z.l[i] = b := by
  have := gJ hi
  rw [h1] at this
  exact (gP this).symm
 obtain ⟨s1, s2, s3, s4, s5⟩ := Zn.lZ hz (b := z.l[i]) ht
 obtain ⟨y, hy, hya, hyo⟩ := s5 i b h1
 have hlen : (z.steal z.l[i] t).y.length = z.y.length ∧ (z.steal z.l[i] t).l.length = z.l.length := by
  unfold Zn.steal
  split
  ·exact ⟨rfl, rfl⟩
  ·exact ⟨mX _ _ _ _ _, by simp⟩
 refine .inr ⟨i, y, rfl, ?_, s1, s3, s4, hy, by omega, hlen.1, hlen.2⟩
 unfold Zn.take
 rw [h, hd]
 simp only [h1, hb]

set_option maxHeartbeats 4000000 in
set_option maxRecDepth 100000 in
theorem Tm (a1 a2 : Option Addr) (n1 n2 c1 c2 : Nat) (z : Zn) (order t : Nat) (w : World) (hat : Dw w a1 a2 n1 n2 z) (hz : z.ok) (hor : order ≤ 4) (ht : t < 3) (hoth : yK w) :
  Calls Tryz.prog 178 #[.agg #[.int .i64 z.f, .int .i64 z.e, .slice a1 n1 c1, .slice a2 n2 c2], .int .i64 order, .int .i64 t] w fun ev w' =>
   (z.take order t = none ∧ ev = .returned (.tuple #[.agg #[.int .i64 0, .int .i64 0, .slice none 0 0, .slice none 0 0], .int .i64 0, .int .i64 6]) ∧ Below w.heap.size w w') ∨
   (∃ z' at_ a1' a2' n1' c1' c2', z.take order t = some (z', at_) ∧ ev = .returned (.tuple #[.agg #[.int .i64 z.f, .int .i64 z.e, .slice a1' n1' c1', .slice a2' n2 c2'], .int .i64 (at_ : Nat), .int .i64 0]) ∧ fG w' w.heap.size a1' a2' n1' n2 c1' c2' z' ∧ Below w.heap.size w w') := by
 have hlen : z.l.length ≤ 256 := gQ (oM.length_le hz.2 (fun b hb => (hz.2.fit b hb).1.2.2.1)) hz.1.e2
 have hee := hz.1.e2
 have l1 := hat.l1
 have l2 := hat.l2
 have hy32 : z.y.length ≤ 32 := by rw [hz.1.len]; omega
 obtain ⟨K3, K6, F3, F6, hsz, hbw⟩ := boxes2 w #[.int .i64 (z.f : Int), .int .i64 (z.e : Int), .slice a1 n1 c1, .slice a2 n2 c2] 102 #[.int .i64 0, .int .i64 0, .slice none 0 0, .slice none 0 0] 102
 have lQ := hat.below hbw
 have d1 : decide ((4 : Int) < order) = false := decide_eq_false (by omega)
 have d2 : decide ((3 : Int) ≤ t) = false := decide_eq_false (by omega)
 have d3 : decide (4 < order) = false := decide_eq_false (by omega)
 have d4 : decide (3 ≤ t) = false := decide_eq_false (by omega)
 have HOT := gO hoth
 clear hat hoth
 go_enter Tryz.func178, Tryz.ntmps178
 go_wp2_with fail
 generalize (w.alloc (.cells #[.int .i64 (z.f : Int), .int .i64 (z.e : Int), .slice a1 n1 c1, .slice a2 n2 c2] 102)).alloc (.cells #[.int .i64 0, .int .i64 0, .slice none 0 0, .slice none 0 0] 102) = w0 at *
 refine (mD _ _ _ _ _ _ z _ lQ hz).mono ?_
 rintro ev w1 ⟨rfl, hb1⟩
 have UQ := aC K3 (by omega) hb1
 have UR := aC K6 (by omega) hb1
 have UU := aJ F3 (by omega) hb1
 have UW := aJ F6 (by omega) hb1
 have AY := lQ.below hb1
 have sK := Below.step hbw hb1
 have hB : w.heap.size + 2 ≤ w1.heap.size := by have := hb1.size; omega
 clear K3 K6 F3 F6 hb1 lQ hbw hsz
 go_wp2_with fail
 refine (yM _ _ _ _ _ _ z.f z.e z _ AY (by omega) (by omega)).mono ?_
 rintro ev w5 ⟨a3, a4, c3, c4, rfl, hown, hb5⟩
 have UY := aC UQ (by omega) hb5
 have UZ := aC UR (by omega) hb5
 have Va := aJ UU (by omega) hb5
 have Vb := aJ UW (by omega) hb5
 have rM := Below.step sK hb5
 have hnn := (hown.ne (g := w.heap.size) (.inl (by omega)))
 have I1 : GInv w ((((w5.setCell ⟨w.heap.size, 0, none⟩ (.int .i64 z.f)).setCell ⟨w.heap.size, 1, none⟩ (.int .i64 z.e)).setCell ⟨w.heap.size, 2, none⟩ (.slice a3 n1 c3)).setCell ⟨w.heap.size, 3, none⟩ (.slice a4 n2 c4)) a3 a4 n1 n2 c3 c4 z := by
  have h5 := hb5.size
  exact ⟨aG (aG (aG (aG UY 0 _) 1 _) 2 _) 3 _, aH (aH (aH (aH Va _ _) _ _) _ _) _ _, aA (aA (aA (aA UZ (by omega) _ _) (by omega) _ _) (by omega) _ _) (by omega) _ _, aH (aH (aH (aH Vb _ _) _ _) _ _) _ _, (((((hown.base hB).set hnn _ _).set hnn _ _).set hnn _ _).set hnn _ _), by simp only [World.size_setCell]; omega, Below.setCell (Below.setCell (Below.setCell (Below.setCell rM (by simp only; omega) _) (by simp only; omega) _) (by simp only; omega) _) (by simp only; omega) _⟩
 have HI := gO I1
 clear I1 UZ Vb hown rM UQ UR UU UW AY sK hb5 hnn d1 d2 d3 d4
 go_wp2
 clear UY Va
 generalize (((w5.setCell ⟨w.heap.size, 0, none⟩ (.int .i64 z.f)).setCell ⟨w.heap.size, 1, none⟩ (.int .i64 z.e)).setCell ⟨w.heap.size, 2, none⟩ (.slice a3 n1 c3)).setCell ⟨w.heap.size, 3, none⟩ (.slice a4 n2 c4) = w6 at *
 go_loopw [10, 11] (fun s10 s11 wr => ∃ (r : Option Nat) (o : Nat), s10 = .int .i64 (uV r) ∧ s11 = .int .i64 (o : Int) ∧ order ≤ o ∧ o ≤ 5 ∧ Hid ((r = none ∧ jH z.l t (5 - order) order = jH z.l t (5 - o) o) ∨ ∃ i, r = some i ∧ jH z.l t (5 - order) order = some i) ∧ Hid (GInv w wr a3 a4 n1 n2 c3 c4 z)) (fun _ s11 _ => 6 - (intOf s11).toNat)
 case atStart => exact ⟨none, order, rfl, rfl, Nat.le_refl _, by omega, .inl ⟨rfl, rfl⟩, HI⟩
 case round =>
  obtain ⟨r, o, rfl, rfl, ho1, ho2, HR, HK⟩ := hrel
  clear HI
  cases r with
  | none =>
   by_cases ho4 : o ≤ 4
   ·have d1 : decide ((o : Int) ≤ 4) = true := decide_eq_true (by omega)
    have d2 : decide (o ≤ 4) = true := decide_eq_true (by omega)
    have k30 := HK.out.k3 0
    have k31 := HK.out.k3 1
    have k32 := HK.out.k3 2
    have k33 := HK.out.k3 3
    have hHi := HK.out.hi
    simp only [gB, gC, gD] at k30 k31 k32 k33
    simp only [uV]
    go_wp2_with fail
    refine (wH _ _ _ _ _ _ z.f z.e z o t _ HK.out.own.at (by omega)).mono ?_
    rintro ev w7 ⟨rfl, hb7⟩
    have HK7 := gO (HK.out.below hb7)
    rw [wI]
    have hfu : Hid (jH z.l t (5 - o) o = match lN z.l o t with | some i => some i | none => jH z.l t (5 - (o + 1)) (o + 1)) := by
     unfold Hid
     rw [show 5 - o = (5 - (o + 1)) + 1 by omega]
     rfl
    clear hb7 HK k30 k31 k32 k33
    go_wp2
    go_roundw
    case rel =>
     refine ⟨lN z.l o t, o + 1, rfl, by go_num, by omega, by omega, ?_, HK7⟩
     rcases HR.out with ⟨_, h⟩ | ⟨i, h, _⟩
     ·rw [hfu.out] at h
      cases hc : lN z.l o t with
      | none => rw [hc] at h; exact .inl ⟨rfl, h⟩
      | some i => rw [hc] at h; exact .inr ⟨i, rfl, h⟩
     ·cases h
    case measure => simp [intOf]; omega
   ·have d1 : decide ((o : Int) ≤ 4) = false := decide_eq_false (by omega)
    have d2 : decide (o ≤ 4) = false := decide_eq_false (by omega)
    have HS : Hid (oQ z order t none z (dJ z.l t order 5)) := by
     refine .inl ⟨rfl, rfl, ?_, rfl⟩
     rcases HR.out with ⟨_, h⟩ | ⟨i, h, _⟩
     ·rw [h, show 5 - o = 0 by omega]; rfl
     ·cases h
    simp only [uV]
    clear HR
    have HK0 := HK
    clear HK
    go_wp2
    generalize wr = wq at *
    go_loopw [10, 12] (fun s10 s12 wr => ∃ (r : Option Nat) (y : Zn) (n : Nat), s10 = .int .i64 (uV r) ∧ s12 = .int .i64 ((n : Int) - 1) ∧ n ≤ 5 ∧ Hid (oQ z order t r y (dJ z.l t order n)) ∧ Hid (GInv w wr a3 a4 n1 n2 c3 c4 y)) (fun _ s12 _ => (intOf s12 + 1).toNat)
    case atStart => exact ⟨none, z, 5, rfl, rfl, Nat.le_refl _, HS, HK0⟩
    case round =>
     clear HS HK0
     obtain ⟨r, y, n, rfl, rfl, hn5, HS, HK⟩ := hrel
     cases r with
     | none =>
      obtain rfl : z = y := by
       rcases HS.out with ⟨_, h, _⟩ | ⟨i, b, h, _⟩
       ·exact h.symm
       ·cases h
      by_cases hno : order + 1 ≤ n
      ·obtain ⟨m, rfl⟩ : ∃ m, n = m + 1 := ⟨n - 1, by omega⟩
       have e1 : ((m + 1 : Nat) : Int) - 1 = (m : Int) := by omega
       have d1 : decide ((order : Int) ≤ m) = true := decide_eq_true (by omega)
       have d2 : decide (order ≤ m) = true := decide_eq_true (by omega)
       have hOt := (HOT.out.mono HK.out.bw (Nat.le_refl _)).at ht
       obtain ⟨o1, o2⟩ := hOt
       have hsz0 := (HOT.out.mono HK.out.bw (Nat.le_refl _)).sz
       have hfd : Hid (dJ z.l t order (m + 1) = match lN z.l m (oth1 t) with | some i => some i | none => match lN z.l m (oth2 t) with | some i => some i | none => dJ z.l t order m) := by
        unfold Hid
        conv => lhs; unfold dJ
        rw [if_neg (by omega)]
        rfl
       have ht3 : (t : Int) < 3 := by omega
       rw [e1]
       simp only [uV]
       go_wp2
       clear o1 o2
       have hix := fun (W : World) => (idx2 (.int .i64 (oth1 t : Int)) (.int .i64 (oth2 t : Int)) W rfl rfl).1
       have hiy := fun (W : World) => (idx2 (.int .i64 (oth1 t : Int)) (.int .i64 (oth2 t : Int)) W rfl rfl).2
       generalize hO1 : oth1 t = O1 at *
       generalize hO2 : oth2 t = O2 at *
       generalize wr = wr1 at *
       go_loopw [10, 66] (fun s10 s66 wr => ∃ j : Nat, j ≤ 2 ∧ s66 = .int .i64 (j : Int) ∧ s10 = .int .i64 (-1) ∧ Hid (GInv w wr a3 a4 n1 n2 c3 c4 z) ∧ Hid (1 ≤ j → lN z.l m O1 = none) ∧ Hid (2 ≤ j → lN z.l m O2 = none)) (fun _ s66 _ => 2 - (intOf s66).toNat)
       case atStart => exact ⟨0, by omega, rfl, rfl, HK, (fun h => by omega), (fun h => by omega)⟩
       case round =>
        obtain ⟨j, hj2, rfl, rfl, Fj, HN1, HN2⟩ := hrel
        clear HK
        obtain rfl | rfl | rfl : j = 0 ∨ j = 1 ∨ j = 2 := by omega
        ·have hJ : ((0 : Nat) : Int) < 2 := by omega
         -- the inner search, at the index 0, for the type O1
         have k30 := Fj.out.k3 0
         have k31 := Fj.out.k3 1
         have k32 := Fj.out.k3 2
         have k33 := Fj.out.k3 3
         have hHi := Fj.out.hi
         simp only [gB, gC, gD] at k30 k31 k32 k33
         go_wp2_with fail
         refine (wH _ _ _ _ _ _ z.f z.e z m (O1) _ Fj.out.own.at (by omega)).mono ?_
         rintro ev w7 ⟨rfl, hb7⟩
         have HK7 := gO (Fj.out.below hb7)
         rw [wI]
         have k70 := HK7.out.k3 0
         have k71 := HK7.out.k3 1
         have k72 := HK7.out.k3 2
         have k73 := HK7.out.k3 3
         have Tn := HK7.out.hi
         simp only [gB, gC, gD] at k70 k71 k72 k73
         clear hb7 Fj k30 k31 k32 k33
         cases hlo : lN z.l m (O1) with
         | none =>
          have HLO := gO hlo
          clear hlo
          simp only [uV]
          go_wp2
          go_roundw
          case rel => exact ⟨0 + 1, by omega, by go_num, rfl, HK7, (fun _ => HLO.out), (fun h => by omega)⟩
          case measure => simp [intOf]
         | some i =>
          have hil : i < z.l.length := by
           obtain ⟨b, hb, _⟩ := nU hlo
           exact (List.getElem?_eq_some_iff.1 hb).1
          have HS2 : Hid (oQ z order t (some i) (z.steal z.l[i] t) (dJ z.l t order m)) := by
           rcases HS.out with ⟨_, _, hu, hd⟩ | ⟨i', b', hr, _⟩
           ·refine xQ hz ht hu (hd.trans ?_) hil _
            rw [hfd.out]
            rw [hlo]
           ·cases hr
          have hfe := Zn.lZ hz (b := z.l[i]) ht
          have WG := gO hfe
          clear hlo hfe
          simp only [uV]
          go_wp2_with fail
          refine (lZ (w.heap.size + 2) _ _ _ _ _ _ z i t hil _ HK7.out.own hz ht Tn).mono ?_
          rintro ev w8 ⟨rfl, xR, hb8⟩
          have HK8 := gO (HK7.out.Py xR hb8 WG.out.2.2.1 WG.out.2.2.2.1)
          clear xR hb8 WG HK7 k70 k71 k72 k73
          dsimp only
          go_wp2
          go_roundw
          case rel => exact ⟨some i, _, m, rfl, by go_num, by omega, HS2, HK8⟩
          case measure => simp [intOf]

        ·have hJ : ((1 : Nat) : Int) < 2 := by omega
         -- the inner search, at the index 1, for the type O2
         have k30 := Fj.out.k3 0
         have k31 := Fj.out.k3 1
         have k32 := Fj.out.k3 2
         have k33 := Fj.out.k3 3
         have hHi := Fj.out.hi
         simp only [gB, gC, gD] at k30 k31 k32 k33
         go_wp2_with fail
         refine (wH _ _ _ _ _ _ z.f z.e z m (O2) _ Fj.out.own.at (by omega)).mono ?_
         rintro ev w7 ⟨rfl, hb7⟩
         have HK7 := gO (Fj.out.below hb7)
         rw [wI]
         have k70 := HK7.out.k3 0
         have k71 := HK7.out.k3 1
         have k72 := HK7.out.k3 2
         have k73 := HK7.out.k3 3
         have Tn := HK7.out.hi
         simp only [gB, gC, gD] at k70 k71 k72 k73
         clear hb7 Fj k30 k31 k32 k33
         cases hlo : lN z.l m (O2) with
         | none =>
          have HLO := gO hlo
          clear hlo
          simp only [uV]
          go_wp2
          go_roundw
          case rel => exact ⟨1 + 1, by omega, by go_num, rfl, HK7, (fun _ => HN1.out (by omega)), (fun _ => HLO.out)⟩
          case measure => simp [intOf]
         | some i =>
          have hil : i < z.l.length := by
           obtain ⟨b, hb, _⟩ := nU hlo
           exact (List.getElem?_eq_some_iff.1 hb).1
          have HS2 : Hid (oQ z order t (some i) (z.steal z.l[i] t) (dJ z.l t order m)) := by
           rcases HS.out with ⟨_, _, hu, hd⟩ | ⟨i', b', hr, _⟩
           ·refine xQ hz ht hu (hd.trans ?_) hil _
            rw [hfd.out]
            rw [HN1.out (by omega), hlo]
           ·cases hr
          have hfe := Zn.lZ hz (b := z.l[i]) ht
          have WG := gO hfe
          clear hlo hfe
          simp only [uV]
          go_wp2_with fail
          refine (lZ (w.heap.size + 2) _ _ _ _ _ _ z i t hil _ HK7.out.own hz ht Tn).mono ?_
          rintro ev w8 ⟨rfl, xR, hb8⟩
          have HK8 := gO (HK7.out.Py xR hb8 WG.out.2.2.1 WG.out.2.2.2.1)
          clear xR hb8 WG HK7 k70 k71 k72 k73
          dsimp only
          go_wp2
          go_roundw
          case rel => exact ⟨some i, _, m, rfl, by go_num, by omega, HS2, HK8⟩
          case measure => simp [intOf]

        ·have HS2 : Hid (oQ z order t none z (dJ z.l t order m)) := by
          rcases HS.out with ⟨_, _, hu, hd⟩ | ⟨i', b', hr, _⟩
          ·refine .inl ⟨rfl, rfl, hu, hd.trans ?_⟩
           rw [hfd.out, HN1.out (by omega), HN2.out (by omega)]
          ·cases hr
         go_wp2
         go_roundw
         case rel => exact ⟨none, z, m, rfl, by go_num, by omega, HS2, Fj⟩
         case measure => simp [intOf]
      ·have d1 : decide ((order : Int) ≤ (n : Int) - 1) = false := decide_eq_false (by omega)
       have d5 : ¬ (order : Int) ≤ (n : Int) - 1 := by omega
       have HN : Hid (z.take order t = none) := by
        rcases HS.out with ⟨_, _, hu, hd⟩ | ⟨i', b', hr, _⟩
        ·unfold Hid Zn.take
         rw [hu, hd]
         have : dJ z.l t order n = none := by
          cases n with
          | zero => rfl
          | succ m => unfold dJ; rw [if_pos (by omega)]
         rw [this]
        ·cases hr
       have x6 := HK.out.k6
       have xf6 := HK.out.f6
       have hHi := HK.out.hi
       simp only [uV]
       go_wp2
       refine bodyPost_ret (v := .tuple #[.agg #[.int .i64 0, .int .i64 0, .slice none 0 0, .slice none 0 0], .int .i64 0, .int .i64 6]) (by simp [results, Tryz.results178, go_sem, x6]) rfl (.inl ⟨HN.out, rfl, ?_⟩)
       exact Below.setCell (Below.setCell (Below.setCell (Below.setCell HK.out.bw (by simp only; omega) _) (by simp only; omega) _) (by simp only; omega) _) (by simp only; omega) _
     | some i =>
      simp only [uV]
      -- the block is found, in the zone y as it is by now
      obtain ⟨b, hib, hcut, nN, YT, hye, hyb, OQ, hyl, hll⟩ : ∃ b, z.take order t = y.cut i order ∧ z.take order t = y.cut i order ∧ y.ok ∧ y.f = z.f ∧ y.e = z.e ∧ y.l[i]? = some b ∧ order ≤ b.o ∧ y.y.length = z.y.length ∧ y.l.length = z.l.length := by
       rcases HS.out with ⟨h, _⟩ | ⟨i', b, h, h1, h2, h3, h4, h5, h6, h7, h8⟩
       ·cases h
       ·obtain rfl : i = i' := by simpa using h
        exact ⟨b, h1, h1, h2, h3, h4, h5, h6, h7, h8⟩
      have HYF := gO YT
      have HYE := gO hye
      clear YT hye
      obtain ⟨hil, hbi⟩ := List.getElem?_eq_some_iff.1 hyb
      obtain ⟨bb, off, hb1, hbb, hc⟩ := aN aI (by decide) HK.out.own.at.r1 hil
      obtain rfl := hb1
      obtain ⟨hc0, hc1, hc2⟩ := bK hc
      rw [hbi] at hc0 hc1 hc2
      have hbm : b ∈ y.l := by rw [← hbi]; exact gL hil
      have hbf := nN.2.fit b hbm
      have hapart : ∀ x ∈ y.l.eraseIdx i, apartB b.a b.o x := fun x hx => by
       obtain ⟨j, hj, hne, rfl⟩ := List.mem_eraseIdx_iff_getElem.1 hx
       have := uK nN.2.sep hj hil hne
       rw [hbi] at this
       exact this
      have WH : Hid (z.take order t = some ({ y with l := bU (y.l.eraseIdx i) b.a b.t order b.o }, b.a)) := by
       unfold Hid
       rw [hcut]
       unfold Zn.cut
       rw [hyb]
      have sN : Hid (oM y.f y.e (y.l.eraseIdx i)) := nN.2.sublist (List.eraseIdx_sublist _ _)
      have IL : Hid (bY y.f y.e b.a b.o) := hbf.1
      have Pq := gO hapart
      have hl1 := HK.out.own.l1
      have hl2 := HK.out.own.l2
      have hin : (i : Int) < n1 := by omega
      have hin2 : i < n1 := by omega
      have k32 := HK.out.k3 2
      have hHi := HK.out.hi
      simp only [gB, gC, gD] at k32
      have hwr0 : w.heap.size < wr.heap.size := by omega
      have hbn := aB wr (.cells #[.int .i64 (b.a : Int), .int .i64 (b.o : Int), .int .i64 (b.t : Int)] 63)
      have HQ : Hid (oD w (wr.alloc (.cells #[.int .i64 (b.a : Int), .int .i64 (b.o : Int), .int .i64 (b.t : Int)] 63)) wr.heap.size (some ⟨bb, off, none⟩) a4 n1 n2 c3 c4 y b.a b.o b.t) :=
       ⟨HK.out.below hbn, bC wr _ _, eH wr _ _, hHi, by simp, HK.out.own.ne (.inr (Nat.le_refl _))⟩
      clear hbi hyb hapart hc hbm hcut hib HS
      go_wp2_with fail
      clear hc0 hc1 hc2 k32 HK hbn
      generalize wr.alloc (.cells #[.int .i64 (b.a : Int), .int .i64 (b.o : Int), .int .i64 (b.t : Int)] 63) = w7 at *
      generalize wr.heap.size = B at *
      refine (nY (w.heap.size + 2) _ _ _ y.l i _ HQ.out.g.own.o1 hin2 (by omega) HQ.out.g.hi).mono ?_
      rintro ev w8 ⟨rfl, hownd, hgd⟩
      have HM := gO (HQ.out.grown hgd (l' := y.l.eraseIdx i) (by rw [List.length_eraseIdx_of_lt hil, hl1]) hownd (.inl rfl))
      have HF := gO HM.out.put3
      have m32 := HM.out.k3 2
      have f32 := HM.out.f3 2
      simp only [gB, gC, gD] at m32
      clear hownd hgd HQ
      go_wp2
      clear m32 f32 HM
      generalize w8.setCell ⟨w.heap.size, 2, none⟩ (.slice (some ⟨bb, off, none⟩) (n1 - 1) c3) = w9 at *
      go_loopw [16, 17] (fun _ _ wr => ∃ (l : List Bk) (o : Nat) (b1 : Option Addr) (m1 d1 : Nat), Hid (oD w wr B b1 a4 m1 n2 d1 c4 { y with l := l } b.a o b.t) ∧ order ≤ o ∧ Hid (oM y.f y.e l) ∧ Hid (bY y.f y.e b.a o) ∧ Hid (∀ x ∈ l, apartB b.a o x) ∧ Hid (bU (y.l.eraseIdx i) b.a b.t order b.o = bU l b.a b.t order o)) (fun _ _ wr => ((wr.cell? ⟨B, 1, none⟩).map fun v => (intOf v).toNat).getD 0)
      case atStart => exact ⟨y.l.eraseIdx i, b.o, _, n1 - 1, c3, HF, OQ, sN, IL, Pq, rfl⟩
      case round =>
       clear HF sN IL Pq
       obtain ⟨l, o', b1, m1, d1, HQ, hoo, sN, IL, Pq, IU⟩ := hrel
       have hlo := HQ.out.lo
       have hBr := HQ.out.hB
       have aCm := HQ.out.g.hi
       have k150 := HQ.out.k15 0
       have k151 := HQ.out.k15 1
       have k152 := HQ.out.k15 2
       have f151 := HQ.out.f15 1
       simp only [gB, gC, gD] at k150 k151 k152
       by_cases hgt : order < o'
       ·obtain ⟨m, rfl⟩ : ∃ m, o' = m + 1 := ⟨o' - 1, by omega⟩
        have dgt : (order : Int) < (m : Int) + 1 := by omega
        have hm1 : ((m : Int) + 1) - 1 = (m : Int) := by omega
        have HQ2 := gO (HQ.out.put15 1 (m : Int) (a' := b.a) (o' := m) (t' := b.t) rfl)
        obtain ⟨s1, s2, s3⟩ := zB nN.1.e16 hbf.2 sN.out IL.out Pq.out
        have hm4 : m + 1 ≤ 4 := IL.out.1
        have Fp := IL.out
        obtain ⟨H, hH⟩ : ∃ H, (⟨b.a, m, b.t⟩ : Bk).fin = H := ⟨_, rfl⟩
        have hH2 : b.a + 2 ^ m = H := hH
        have aCo : H ≤ 300 := by have := pU nN.1.e16 s2; have := nN.1.e2; omega
        rw [hH2] at s1 s3
        have YU : Hid (bU l b.a b.t order (m + 1) = bU (bG l ⟨H, m, b.t⟩) b.a b.t order m) := by
         unfold Hid
         conv => lhs; unfold bU
         rw [if_pos (by omega), hH2]
        have hlm : l.length = m1 := HQ.out.g.own.l1
        have Vd : l.length ≤ 256 := gQ (oM.length_le sN.out (fun x hx => (sN.out.fit x hx).1.2.2.1)) nN.1.e2
        have HS1 := gO s1
        have HS2 := gO s2
        have HS3 := gO s3
        clear s1 s2 s3
        go_wp2_with fail
        have k15 := HQ2.out.k15
        have hB2 := HQ2.out.hB
        have aCp := nN.1.e2
        clear k150 k151 k152 f151
        generalize wr.setCell ⟨B, 1, none⟩ (.int .i64 (m : Int)) = wv at *
        have k150 := k15 0
        have k151 := k15 1
        have k152 := k15 2
        simp only [gB, gC, gD] at k150 k151 k152
        have hBne : B ≠ wv.heap.size := by omega
        go_region_held3 (fun w' => w'.cell? ⟨B, 0, none⟩ = some (.int .i64 (b.a : Int)) ∧ w'.cell? ⟨B, 1, none⟩ = some (.int .i64 (m : Int)) ∧ w'.cell? ⟨B, 2, none⟩ = some (.int .i64 (b.t : Int))) (first | exact ⟨k150, k151, k152⟩ | exact ⟨q0, q1, q2⟩ | exact ⟨aA (aA (aA DJ hBne _ _) hBne _ _) hBne _ _ 0, aA (aA (aA DJ hBne _ _) hBne _ _) hBne _ _ 1, aA (aA (aA DJ hBne _ _) hBne _ _) hBne _ _ 2⟩ | go_keep) (first | (go_at_call 164; refine (iV ⟨b.a, m, b.t⟩ _ (by show m ≤ 4; omega) (by show b.a ≤ 1000; have := Fp.2.2.1; omega)).mono ?_; rintro ev wk ⟨rfl, hbk⟩; have MS := Below.step ((Below.refl wv.heap.size wv).drew) hbk; have q0 := (MS.cell (p := ⟨B, 0, none⟩) hB2).trans k150; have q1 := (MS.cell (p := ⟨B, 1, none⟩) hB2).trans k151; have q2 := (MS.cell (p := ⟨B, 2, none⟩) hB2).trans k152; have Ox : B < wk.heap.size := gI hB2 MS.size) | (go_at_call 164; refine (iV ⟨b.a, m, b.t⟩ _ (by show m ≤ 4; omega) (by show b.a ≤ 1000; have := Fp.2.2.1; omega)).mono ?_; rintro ev wk ⟨rfl, hbk⟩; have hbB := Below.step (aB wv (.cells #[.int .i64 0, .int .i64 0, .int .i64 0] 63)) (Below.step ((Below.refl _ _).drew) hbk); have q0 := (hbB.cell (p := ⟨B, 0, none⟩) hB2).trans k150; have q1 := (hbB.cell (p := ⟨B, 1, none⟩) hB2).trans k151; have q2 := (hbB.cell (p := ⟨B, 2, none⟩) hB2).trans k152; have Ox : B < wk.heap.size := gI hB2 hbB.size; have DJ := aC k15 hB2 hbB; have K16 := aC (bC wv #[.int .i64 0, .int .i64 0, .int .i64 0] 63) (show wv.heap.size < (wv.alloc (.cells #[.int .i64 0, .int .i64 0, .int .i64 0] 63)).heap.size by simp) (Below.step ((Below.refl _ _).drew) hbk); have F16 := aJ (eH wv #[.int .i64 0, .int .i64 0, .int .i64 0] 63) (show wv.heap.size < (wv.alloc (.cells #[.int .i64 0, .int .i64 0, .int .i64 0] 63)).heap.size by simp) (Below.step ((Below.refl _ _).drew) hbk); have YV : wv.heap.size < wk.heap.size := gI (show wv.heap.size < (wv.alloc (.cells #[.int .i64 0, .int .i64 0, .int .i64 0] 63)).heap.size by simp) (Below.step ((Below.refl _ _).drew) hbk).size))
        all_goals rename_i hHeld
        all_goals clear hHeld
        ·have HQ4 : Hid (oD w (wk.alloc (.cells #[.int .i64 (H : Int), .int .i64 (m : Int), .int .i64 (b.t : Int)] 63)) B b1 a4 m1 n2 d1 c4 { y with l := l } b.a m b.t) := (HQ2.out.below MS).below (aB wk _)
         have mG := bC wk #[.int .i64 (H : Int), .int .i64 (m : Int), .int .i64 (b.t : Int)] 63
         have IV : wk.heap.size < (wk.alloc (.cells #[.int .i64 (H : Int), .int .i64 (m : Int), .int .i64 (b.t : Int)] 63)).heap.size := by simp
         clear q0 q1 q2 MS hbk HQ2 k150 k151 k152 k15
         generalize wk.heap.size = G at *
         generalize wk.alloc (.cells #[.int .i64 (H : Int), .int .i64 (m : Int), .int .i64 (b.t : Int)] 63) = wh at *
         -- the half is put back, from the world wh
         have k30 := HQ4.out.g.k3 0
         have k31 := HQ4.out.g.k3 1
         have k32 := HQ4.out.g.k3 2
         have k33 := HQ4.out.g.k3 3
         have WI := HQ4.out.g.hi
         have k160 := mG 0
         have k161 := mG 1
         have k162 := mG 2
         simp only [gB, gC, gD] at k30 k31 k32 k33 k160 k161 k162
         go_wp2_with fail
         refine (find_ok _ _ _ _ _ _ y.f y.e { y with l := l } H _ HQ4.out.g.own.at (by omega) sN.out.rise (fun x hx => by have := (sN.out.fit x hx).1.2.2.1; have := nN.1.e2; omega) (by omega)).mono ?_
         rintro ev w8 ⟨rfl, hb8⟩
         have HQ5 := gO (HQ4.out.below hb8)
         have oU := aC mG IV hb8
         have IW := gI IV hb8.size
         clear hb8 HQ4 mG k30 k31 k32 k33 k160 k161 k162 IV
         have k32 := HQ5.out.g.k3 2
         have WJ := HQ5.out.g.hi
         have k160 := oU 0
         have k161 := oU 1
         have k162 := oU 2
         simp only [gB, gC, gD] at k32 k160 k161 k162
         have IX : w.heap.size < w8.heap.size := by omega
         go_wp2_with fail
         have hbn := aB w8 (.cells #[.int .i64 (H : Int), .int .i64 (m : Int), .int .i64 (b.t : Int)] 63)
         have HQ6 := gO (HQ5.out.below hbn)
         have hnew : (w8.alloc (.cells #[.int .i64 (H : Int), .int .i64 (m : Int), .int .i64 (b.t : Int)] 63)).heap[w8.heap.size]? = some (.cells (aO ⟨H, m, b.t⟩).toArray 63 (0, 0)) := heap_alloc_new w8 _
         have hnn := (HQ5.out.g.own.ne (g := w8.heap.size) (.inr (Nat.le_refl _))).1
         clear HQ5 k32 k160 k161 k162 oU IW IX
         have hlbm : lb l H ≤ m1 := by have := jZ l H; omega
         generalize w8.heap.size = G2 at *
         generalize w8.alloc (.cells #[.int .i64 (H : Int), .int .i64 (m : Int), .int .i64 (b.t : Int)] 63) = wn at *
         refine (kQ (w.heap.size + 2) _ _ _ G2 (lb l H) l ⟨H, m, b.t⟩ _ HQ6.out.g.own.o1 hlbm (by omega) HQ6.out.g.hi hnew (fun e => hnn e.symm)).mono ?_
         rintro ev wi ⟨e1, f1, rfl, jV, hgi⟩
         have oC : (bG l ⟨H, m, b.t⟩).length = m1 + 1 := by unfold bG; rw [List.length_append, List.length_cons, List.length_take, List.length_drop]; have := jZ l H; simp only; omega
         have HM2 := gO (HQ6.out.grown hgi (l' := bG l ⟨H, m, b.t⟩) oC jV (.inr ⟨by omega, fun x hx => uU (HS3.out x hx)⟩))
         have HF2 := gO HM2.out.put3
         have m32 := HM2.out.k3 2
         have f32 := HM2.out.f3 2
         simp only [gB, gC, gD] at m32
         clear HQ6 hnew hnn jV hgi
         go_wp2
         go_roundw
         case rel => exact ⟨bG l ⟨H, m, b.t⟩, m, e1, m1 + 1, f1, HF2, by omega, HS1, HS2, HS3, IU.out.trans YU.out⟩
         case measure =>
          rw [show wr.cell? ⟨B, 1, none⟩ = some (.int .i64 ((m + 1 : Nat) : Int)) from HQ.out.k15 1, show (wi.setCell _ _).cell? ⟨B, 1, none⟩ = some (.int .i64 (m : Int)) from HF2.out.k15 1]
          simp [intOf]

        ·have DK := HQ2.out.g.own.ne (g := wv.heap.size) (.inr (Nat.le_refl _))
         have hG2 : w.heap.size + 2 ≤ wv.heap.size := HQ2.out.g.hi
         have HQ4 : Hid (oD w (((wk.setCell ⟨wv.heap.size, 0, none⟩ (.int .i64 (H : Int))).setCell ⟨wv.heap.size, 1, none⟩ (.int .i64 (m : Int))).setCell ⟨wv.heap.size, 2, none⟩ (.int .i64 (b.t : Int))) B b1 a4 m1 n2 d1 c4 { y with l := l } b.a m b.t) := (((HQ2.out.below hbB).wJ hG2 (Ne.symm hBne) DK _ _).wJ hG2 (Ne.symm hBne) DK _ _).wJ hG2 (Ne.symm hBne) DK _ _
         have mG : ∀ o, (((wk.setCell ⟨wv.heap.size, 0, none⟩ (.int .i64 (H : Int))).setCell ⟨wv.heap.size, 1, none⟩ (.int .i64 (m : Int))).setCell ⟨wv.heap.size, 2, none⟩ (.int .i64 (b.t : Int))).cell? ⟨wv.heap.size, o, none⟩ = (#[.int .i64 (H : Int), .int .i64 (m : Int), .int .i64 (b.t : Int)] : Array Value)[o]? := aG (aG (aG K16 0 _) 1 _) 2 _
         have IV : wv.heap.size < (((wk.setCell ⟨wv.heap.size, 0, none⟩ (.int .i64 (H : Int))).setCell ⟨wv.heap.size, 1, none⟩ (.int .i64 (m : Int))).setCell ⟨wv.heap.size, 2, none⟩ (.int .i64 (b.t : Int))).heap.size := by simpa using YV
         clear q0 q1 q2 hbB hbk HQ2 k150 k151 k152 k15 DJ K16 F16 YV DK hG2 hBne
         generalize ((wk.setCell ⟨wv.heap.size, 0, none⟩ (.int .i64 (H : Int))).setCell ⟨wv.heap.size, 1, none⟩ (.int .i64 (m : Int))).setCell ⟨wv.heap.size, 2, none⟩ (.int .i64 (b.t : Int)) = wh at *
         generalize wv.heap.size = G at *
         -- the half is put back, from the world wh
         have k30 := HQ4.out.g.k3 0
         have k31 := HQ4.out.g.k3 1
         have k32 := HQ4.out.g.k3 2
         have k33 := HQ4.out.g.k3 3
         have WI := HQ4.out.g.hi
         have k160 := mG 0
         have k161 := mG 1
         have k162 := mG 2
         simp only [gB, gC, gD] at k30 k31 k32 k33 k160 k161 k162
         go_wp2_with fail
         refine (find_ok _ _ _ _ _ _ y.f y.e { y with l := l } H _ HQ4.out.g.own.at (by omega) sN.out.rise (fun x hx => by have := (sN.out.fit x hx).1.2.2.1; have := nN.1.e2; omega) (by omega)).mono ?_
         rintro ev w8 ⟨rfl, hb8⟩
         have HQ5 := gO (HQ4.out.below hb8)
         have oU := aC mG IV hb8
         have IW := gI IV hb8.size
         clear hb8 HQ4 mG k30 k31 k32 k33 k160 k161 k162 IV
         have k32 := HQ5.out.g.k3 2
         have WJ := HQ5.out.g.hi
         have k160 := oU 0
         have k161 := oU 1
         have k162 := oU 2
         simp only [gB, gC, gD] at k32 k160 k161 k162
         have IX : w.heap.size < w8.heap.size := by omega
         go_wp2_with fail
         have hbn := aB w8 (.cells #[.int .i64 (H : Int), .int .i64 (m : Int), .int .i64 (b.t : Int)] 63)
         have HQ6 := gO (HQ5.out.below hbn)
         have hnew : (w8.alloc (.cells #[.int .i64 (H : Int), .int .i64 (m : Int), .int .i64 (b.t : Int)] 63)).heap[w8.heap.size]? = some (.cells (aO ⟨H, m, b.t⟩).toArray 63 (0, 0)) := heap_alloc_new w8 _
         have hnn := (HQ5.out.g.own.ne (g := w8.heap.size) (.inr (Nat.le_refl _))).1
         clear HQ5 k32 k160 k161 k162 oU IW IX
         have hlbm : lb l H ≤ m1 := by have := jZ l H; omega
         generalize w8.heap.size = G2 at *
         generalize w8.alloc (.cells #[.int .i64 (H : Int), .int .i64 (m : Int), .int .i64 (b.t : Int)] 63) = wn at *
         refine (kQ (w.heap.size + 2) _ _ _ G2 (lb l H) l ⟨H, m, b.t⟩ _ HQ6.out.g.own.o1 hlbm (by omega) HQ6.out.g.hi hnew (fun e => hnn e.symm)).mono ?_
         rintro ev wi ⟨e1, f1, rfl, jV, hgi⟩
         have oC : (bG l ⟨H, m, b.t⟩).length = m1 + 1 := by unfold bG; rw [List.length_append, List.length_cons, List.length_take, List.length_drop]; have := jZ l H; simp only; omega
         have HM2 := gO (HQ6.out.grown hgi (l' := bG l ⟨H, m, b.t⟩) oC jV (.inr ⟨by omega, fun x hx => uU (HS3.out x hx)⟩))
         have HF2 := gO HM2.out.put3
         have m32 := HM2.out.k3 2
         have f32 := HM2.out.f3 2
         simp only [gB, gC, gD] at m32
         clear HQ6 hnew hnn jV hgi
         go_wp2
         go_roundw
         case rel => exact ⟨bG l ⟨H, m, b.t⟩, m, e1, m1 + 1, f1, HF2, by omega, HS1, HS2, HS3, IU.out.trans YU.out⟩
         case measure =>
          rw [show wr.cell? ⟨B, 1, none⟩ = some (.int .i64 ((m + 1 : Nat) : Int)) from HQ.out.k15 1, show (wi.setCell _ _).cell? ⟨B, 1, none⟩ = some (.int .i64 (m : Int)) from HF2.out.k15 1]
          simp [intOf]

       ·obtain rfl : o' = order := by omega
        have dgt : ¬ (o' : Int) < o' := by omega
        have k30 := HQ.out.g.k3 0
        have k31 := HQ.out.g.k3 1
        have k32 := HQ.out.g.k3 2
        have k33 := HQ.out.g.k3 3
        have k6 := HQ.out.g.k6
        have f6 := HQ.out.g.f6
        simp only [gB, gC, gD] at k30 k31 k32 k33
        go_wp2_with fail
        have hsd : bU l b.a b.t o' o' = l := by
         cases o' with
         | zero => rfl
         | succ o' => unfold bU; rw [if_neg (by omega)]
        have YW : Hid (z.take o' t = some ({ y with l := l }, b.a)) := by
         unfold Hid
         rw [WH.out, IU.out, hsd]
        clear hsd
        go_region
        go_wp2
        refine bodyPost_ret (v := .tuple #[.agg #[.int .i64 y.f, .int .i64 y.e, .slice b1 m1 d1, .slice a4 n2 c4], .int .i64 b.a, .int .i64 0]) (by simp [results, Tryz.results178, go_sem, k6]) rfl (.inr ⟨{ y with l := l }, b.a, b1, a4, m1, d1, c4, YW.out, by rw [HYF.out, HYE.out], ?_, ?_⟩)
        ·have no := HQ.out.g.own.ne (g := w.heap.size + 1) (.inl (by omega))
         exact (((((HQ.out.g.own.set no _ _).set no _ _).set no _ _).set no _ _).below ((Below.refl _ _).drew)).base (by omega)
        ·exact Below.drew (Below.setCell (Below.setCell (Below.setCell (Below.setCell HQ.out.g.bw (by simp only; omega) _) (by simp only; omega) _) (by simp only; omega) _) (by simp only; omega) _)

  | some i =>
   have HS : Hid (oQ z order t (some i) z (dJ z.l t order 5)) := by
    rcases HR.out with ⟨h, _⟩ | ⟨j, h, hj⟩
    ·cases h
    ·obtain rfl : i = j := by simpa using h
     exact MR hz hj _
   simp only [uV]
   have HK0 := HK
   clear HK
   go_wp2
   generalize wr = wq at *
   go_loopw [10, 12] (fun s10 s12 wr => ∃ (y : Zn) (n : Nat), s10 = .int .i64 (i : Int) ∧ s12 = .int .i64 (n : Int) ∧ Hid (oQ z order t (some i) y (dJ z.l t order 5)) ∧ Hid (GInv w wr a3 a4 n1 n2 c3 c4 y)) (fun _ _ _ => 0)
   case atStart => exact ⟨z, 4, rfl, rfl, HS, HK0⟩
   case round =>
    clear HS HK0
    obtain ⟨y, n, rfl, rfl, HS, HK⟩ := hrel
    have hi0 : ¬ (i : Int) < 0 := by omega
    first
     |skip
      have hdone := trivial
      -- the block is found, in the zone y as it is by now
      obtain ⟨b, hib, hcut, nN, YT, hye, hyb, OQ, hyl, hll⟩ : ∃ b, z.take order t = y.cut i order ∧ z.take order t = y.cut i order ∧ y.ok ∧ y.f = z.f ∧ y.e = z.e ∧ y.l[i]? = some b ∧ order ≤ b.o ∧ y.y.length = z.y.length ∧ y.l.length = z.l.length := by
       rcases HS.out with ⟨h, _⟩ | ⟨i', b, h, h1, h2, h3, h4, h5, h6, h7, h8⟩
       ·cases h
       ·obtain rfl : i = i' := by simpa using h
        exact ⟨b, h1, h1, h2, h3, h4, h5, h6, h7, h8⟩
      have HYF := gO YT
      have HYE := gO hye
      clear YT hye
      obtain ⟨hil, hbi⟩ := List.getElem?_eq_some_iff.1 hyb
      obtain ⟨bb, off, hb1, hbb, hc⟩ := aN aI (by decide) HK.out.own.at.r1 hil
      obtain rfl := hb1
      obtain ⟨hc0, hc1, hc2⟩ := bK hc
      rw [hbi] at hc0 hc1 hc2
      have hbm : b ∈ y.l := by rw [← hbi]; exact gL hil
      have hbf := nN.2.fit b hbm
      have hapart : ∀ x ∈ y.l.eraseIdx i, apartB b.a b.o x := fun x hx => by
       obtain ⟨j, hj, hne, rfl⟩ := List.mem_eraseIdx_iff_getElem.1 hx
       have := uK nN.2.sep hj hil hne
       rw [hbi] at this
       exact this
      have WH : Hid (z.take order t = some ({ y with l := bU (y.l.eraseIdx i) b.a b.t order b.o }, b.a)) := by
       unfold Hid
       rw [hcut]
       unfold Zn.cut
       rw [hyb]
      have sN : Hid (oM y.f y.e (y.l.eraseIdx i)) := nN.2.sublist (List.eraseIdx_sublist _ _)
      have IL : Hid (bY y.f y.e b.a b.o) := hbf.1
      have Pq := gO hapart
      have hl1 := HK.out.own.l1
      have hl2 := HK.out.own.l2
      have hin : (i : Int) < n1 := by omega
      have hin2 : i < n1 := by omega
      have k32 := HK.out.k3 2
      have hHi := HK.out.hi
      simp only [gB, gC, gD] at k32
      have hwr0 : w.heap.size < wr.heap.size := by omega
      have hbn := aB wr (.cells #[.int .i64 (b.a : Int), .int .i64 (b.o : Int), .int .i64 (b.t : Int)] 63)
      have HQ : Hid (oD w (wr.alloc (.cells #[.int .i64 (b.a : Int), .int .i64 (b.o : Int), .int .i64 (b.t : Int)] 63)) wr.heap.size (some ⟨bb, off, none⟩) a4 n1 n2 c3 c4 y b.a b.o b.t) :=
       ⟨HK.out.below hbn, bC wr _ _, eH wr _ _, hHi, by simp, HK.out.own.ne (.inr (Nat.le_refl _))⟩
      clear hbi hyb hapart hc hbm hcut hib HS
      go_wp2_with fail
      clear hc0 hc1 hc2 k32 HK hbn
      generalize wr.alloc (.cells #[.int .i64 (b.a : Int), .int .i64 (b.o : Int), .int .i64 (b.t : Int)] 63) = w7 at *
      generalize wr.heap.size = B at *
      refine (nY (w.heap.size + 2) _ _ _ y.l i _ HQ.out.g.own.o1 hin2 (by omega) HQ.out.g.hi).mono ?_
      rintro ev w8 ⟨rfl, hownd, hgd⟩
      have HM := gO (HQ.out.grown hgd (l' := y.l.eraseIdx i) (by rw [List.length_eraseIdx_of_lt hil, hl1]) hownd (.inl rfl))
      have HF := gO HM.out.put3
      have m32 := HM.out.k3 2
      have f32 := HM.out.f3 2
      simp only [gB, gC, gD] at m32
      clear hownd hgd HQ
      go_wp2
      clear m32 f32 HM
      generalize w8.setCell ⟨w.heap.size, 2, none⟩ (.slice (some ⟨bb, off, none⟩) (n1 - 1) c3) = w9 at *
      go_loopw [16, 17] (fun _ _ wr => ∃ (l : List Bk) (o : Nat) (b1 : Option Addr) (m1 d1 : Nat), Hid (oD w wr B b1 a4 m1 n2 d1 c4 { y with l := l } b.a o b.t) ∧ order ≤ o ∧ Hid (oM y.f y.e l) ∧ Hid (bY y.f y.e b.a o) ∧ Hid (∀ x ∈ l, apartB b.a o x) ∧ Hid (bU (y.l.eraseIdx i) b.a b.t order b.o = bU l b.a b.t order o)) (fun _ _ wr => ((wr.cell? ⟨B, 1, none⟩).map fun v => (intOf v).toNat).getD 0)
      case atStart => exact ⟨y.l.eraseIdx i, b.o, _, n1 - 1, c3, HF, OQ, sN, IL, Pq, rfl⟩
      case round =>
       clear HF sN IL Pq
       obtain ⟨l, o', b1, m1, d1, HQ, hoo, sN, IL, Pq, IU⟩ := hrel
       have hlo := HQ.out.lo
       have hBr := HQ.out.hB
       have aCm := HQ.out.g.hi
       have k150 := HQ.out.k15 0
       have k151 := HQ.out.k15 1
       have k152 := HQ.out.k15 2
       have f151 := HQ.out.f15 1
       simp only [gB, gC, gD] at k150 k151 k152
       by_cases hgt : order < o'
       ·obtain ⟨m, rfl⟩ : ∃ m, o' = m + 1 := ⟨o' - 1, by omega⟩
        have dgt : (order : Int) < (m : Int) + 1 := by omega
        have hm1 : ((m : Int) + 1) - 1 = (m : Int) := by omega
        have HQ2 := gO (HQ.out.put15 1 (m : Int) (a' := b.a) (o' := m) (t' := b.t) rfl)
        obtain ⟨s1, s2, s3⟩ := zB nN.1.e16 hbf.2 sN.out IL.out Pq.out
        have hm4 : m + 1 ≤ 4 := IL.out.1
        have Fp := IL.out
        obtain ⟨H, hH⟩ : ∃ H, (⟨b.a, m, b.t⟩ : Bk).fin = H := ⟨_, rfl⟩
        have hH2 : b.a + 2 ^ m = H := hH
        have aCo : H ≤ 300 := by have := pU nN.1.e16 s2; have := nN.1.e2; omega
        rw [hH2] at s1 s3
        have YU : Hid (bU l b.a b.t order (m + 1) = bU (bG l ⟨H, m, b.t⟩) b.a b.t order m) := by
         unfold Hid
         conv => lhs; unfold bU
         rw [if_pos (by omega), hH2]
        have hlm : l.length = m1 := HQ.out.g.own.l1
        have Vd : l.length ≤ 256 := gQ (oM.length_le sN.out (fun x hx => (sN.out.fit x hx).1.2.2.1)) nN.1.e2
        have HS1 := gO s1
        have HS2 := gO s2
        have HS3 := gO s3
        clear s1 s2 s3
        go_wp2_with fail
        have k15 := HQ2.out.k15
        have hB2 := HQ2.out.hB
        have aCp := nN.1.e2
        clear k150 k151 k152 f151
        generalize wr.setCell ⟨B, 1, none⟩ (.int .i64 (m : Int)) = wv at *
        have k150 := k15 0
        have k151 := k15 1
        have k152 := k15 2
        simp only [gB, gC, gD] at k150 k151 k152
        have hBne : B ≠ wv.heap.size := by omega
        go_region_held3 (fun w' => w'.cell? ⟨B, 0, none⟩ = some (.int .i64 (b.a : Int)) ∧ w'.cell? ⟨B, 1, none⟩ = some (.int .i64 (m : Int)) ∧ w'.cell? ⟨B, 2, none⟩ = some (.int .i64 (b.t : Int))) (first | exact ⟨k150, k151, k152⟩ | exact ⟨q0, q1, q2⟩ | exact ⟨aA (aA (aA DJ hBne _ _) hBne _ _) hBne _ _ 0, aA (aA (aA DJ hBne _ _) hBne _ _) hBne _ _ 1, aA (aA (aA DJ hBne _ _) hBne _ _) hBne _ _ 2⟩ | go_keep) (first | (go_at_call 164; refine (iV ⟨b.a, m, b.t⟩ _ (by show m ≤ 4; omega) (by show b.a ≤ 1000; have := Fp.2.2.1; omega)).mono ?_; rintro ev wk ⟨rfl, hbk⟩; have MS := Below.step ((Below.refl wv.heap.size wv).drew) hbk; have q0 := (MS.cell (p := ⟨B, 0, none⟩) hB2).trans k150; have q1 := (MS.cell (p := ⟨B, 1, none⟩) hB2).trans k151; have q2 := (MS.cell (p := ⟨B, 2, none⟩) hB2).trans k152; have Ox : B < wk.heap.size := gI hB2 MS.size) | (go_at_call 164; refine (iV ⟨b.a, m, b.t⟩ _ (by show m ≤ 4; omega) (by show b.a ≤ 1000; have := Fp.2.2.1; omega)).mono ?_; rintro ev wk ⟨rfl, hbk⟩; have hbB := Below.step (aB wv (.cells #[.int .i64 0, .int .i64 0, .int .i64 0] 63)) (Below.step ((Below.refl _ _).drew) hbk); have q0 := (hbB.cell (p := ⟨B, 0, none⟩) hB2).trans k150; have q1 := (hbB.cell (p := ⟨B, 1, none⟩) hB2).trans k151; have q2 := (hbB.cell (p := ⟨B, 2, none⟩) hB2).trans k152; have Ox : B < wk.heap.size := gI hB2 hbB.size; have DJ := aC k15 hB2 hbB; have K16 := aC (bC wv #[.int .i64 0, .int .i64 0, .int .i64 0] 63) (show wv.heap.size < (wv.alloc (.cells #[.int .i64 0, .int .i64 0, .int .i64 0] 63)).heap.size by simp) (Below.step ((Below.refl _ _).drew) hbk); have F16 := aJ (eH wv #[.int .i64 0, .int .i64 0, .int .i64 0] 63) (show wv.heap.size < (wv.alloc (.cells #[.int .i64 0, .int .i64 0, .int .i64 0] 63)).heap.size by simp) (Below.step ((Below.refl _ _).drew) hbk); have YV : wv.heap.size < wk.heap.size := gI (show wv.heap.size < (wv.alloc (.cells #[.int .i64 0, .int .i64 0, .int .i64 0] 63)).heap.size by simp) (Below.step ((Below.refl _ _).drew) hbk).size))
        all_goals rename_i hHeld
        all_goals clear hHeld
        ·have HQ4 : Hid (oD w (wk.alloc (.cells #[.int .i64 (H : Int), .int .i64 (m : Int), .int .i64 (b.t : Int)] 63)) B b1 a4 m1 n2 d1 c4 { y with l := l } b.a m b.t) := (HQ2.out.below MS).below (aB wk _)
         have mG := bC wk #[.int .i64 (H : Int), .int .i64 (m : Int), .int .i64 (b.t : Int)] 63
         have IV : wk.heap.size < (wk.alloc (.cells #[.int .i64 (H : Int), .int .i64 (m : Int), .int .i64 (b.t : Int)] 63)).heap.size := by simp
         clear q0 q1 q2 MS hbk HQ2 k150 k151 k152 k15
         generalize wk.heap.size = G at *
         generalize wk.alloc (.cells #[.int .i64 (H : Int), .int .i64 (m : Int), .int .i64 (b.t : Int)] 63) = wh at *
         -- the half is put back, from the world wh
         have k30 := HQ4.out.g.k3 0
         have k31 := HQ4.out.g.k3 1
         have k32 := HQ4.out.g.k3 2
         have k33 := HQ4.out.g.k3 3
         have WI := HQ4.out.g.hi
         have k160 := mG 0
         have k161 := mG 1
         have k162 := mG 2
         simp only [gB, gC, gD] at k30 k31 k32 k33 k160 k161 k162
         go_wp2_with fail
         refine (find_ok _ _ _ _ _ _ y.f y.e { y with l := l } H _ HQ4.out.g.own.at (by omega) sN.out.rise (fun x hx => by have := (sN.out.fit x hx).1.2.2.1; have := nN.1.e2; omega) (by omega)).mono ?_
         rintro ev w8 ⟨rfl, hb8⟩
         have HQ5 := gO (HQ4.out.below hb8)
         have oU := aC mG IV hb8
         have IW := gI IV hb8.size
         clear hb8 HQ4 mG k30 k31 k32 k33 k160 k161 k162 IV
         have k32 := HQ5.out.g.k3 2
         have WJ := HQ5.out.g.hi
         have k160 := oU 0
         have k161 := oU 1
         have k162 := oU 2
         simp only [gB, gC, gD] at k32 k160 k161 k162
         have IX : w.heap.size < w8.heap.size := by omega
         go_wp2_with fail
         have hbn := aB w8 (.cells #[.int .i64 (H : Int), .int .i64 (m : Int), .int .i64 (b.t : Int)] 63)
         have HQ6 := gO (HQ5.out.below hbn)
         have hnew : (w8.alloc (.cells #[.int .i64 (H : Int), .int .i64 (m : Int), .int .i64 (b.t : Int)] 63)).heap[w8.heap.size]? = some (.cells (aO ⟨H, m, b.t⟩).toArray 63 (0, 0)) := heap_alloc_new w8 _
         have hnn := (HQ5.out.g.own.ne (g := w8.heap.size) (.inr (Nat.le_refl _))).1
         clear HQ5 k32 k160 k161 k162 oU IW IX
         have hlbm : lb l H ≤ m1 := by have := jZ l H; omega
         generalize w8.heap.size = G2 at *
         generalize w8.alloc (.cells #[.int .i64 (H : Int), .int .i64 (m : Int), .int .i64 (b.t : Int)] 63) = wn at *
         refine (kQ (w.heap.size + 2) _ _ _ G2 (lb l H) l ⟨H, m, b.t⟩ _ HQ6.out.g.own.o1 hlbm (by omega) HQ6.out.g.hi hnew (fun e => hnn e.symm)).mono ?_
         rintro ev wi ⟨e1, f1, rfl, jV, hgi⟩
         have oC : (bG l ⟨H, m, b.t⟩).length = m1 + 1 := by unfold bG; rw [List.length_append, List.length_cons, List.length_take, List.length_drop]; have := jZ l H; simp only; omega
         have HM2 := gO (HQ6.out.grown hgi (l' := bG l ⟨H, m, b.t⟩) oC jV (.inr ⟨by omega, fun x hx => uU (HS3.out x hx)⟩))
         have HF2 := gO HM2.out.put3
         have m32 := HM2.out.k3 2
         have f32 := HM2.out.f3 2
         simp only [gB, gC, gD] at m32
         clear HQ6 hnew hnn jV hgi
         go_wp2
         go_roundw
         case rel => exact ⟨bG l ⟨H, m, b.t⟩, m, e1, m1 + 1, f1, HF2, by omega, HS1, HS2, HS3, IU.out.trans YU.out⟩
         case measure =>
          rw [show wr.cell? ⟨B, 1, none⟩ = some (.int .i64 ((m + 1 : Nat) : Int)) from HQ.out.k15 1, show (wi.setCell _ _).cell? ⟨B, 1, none⟩ = some (.int .i64 (m : Int)) from HF2.out.k15 1]
          simp [intOf]

        ·have DK := HQ2.out.g.own.ne (g := wv.heap.size) (.inr (Nat.le_refl _))
         have hG2 : w.heap.size + 2 ≤ wv.heap.size := HQ2.out.g.hi
         have HQ4 : Hid (oD w (((wk.setCell ⟨wv.heap.size, 0, none⟩ (.int .i64 (H : Int))).setCell ⟨wv.heap.size, 1, none⟩ (.int .i64 (m : Int))).setCell ⟨wv.heap.size, 2, none⟩ (.int .i64 (b.t : Int))) B b1 a4 m1 n2 d1 c4 { y with l := l } b.a m b.t) := (((HQ2.out.below hbB).wJ hG2 (Ne.symm hBne) DK _ _).wJ hG2 (Ne.symm hBne) DK _ _).wJ hG2 (Ne.symm hBne) DK _ _
         have mG : ∀ o, (((wk.setCell ⟨wv.heap.size, 0, none⟩ (.int .i64 (H : Int))).setCell ⟨wv.heap.size, 1, none⟩ (.int .i64 (m : Int))).setCell ⟨wv.heap.size, 2, none⟩ (.int .i64 (b.t : Int))).cell? ⟨wv.heap.size, o, none⟩ = (#[.int .i64 (H : Int), .int .i64 (m : Int), .int .i64 (b.t : Int)] : Array Value)[o]? := aG (aG (aG K16 0 _) 1 _) 2 _
         have IV : wv.heap.size < (((wk.setCell ⟨wv.heap.size, 0, none⟩ (.int .i64 (H : Int))).setCell ⟨wv.heap.size, 1, none⟩ (.int .i64 (m : Int))).setCell ⟨wv.heap.size, 2, none⟩ (.int .i64 (b.t : Int))).heap.size := by simpa using YV
         clear q0 q1 q2 hbB hbk HQ2 k150 k151 k152 k15 DJ K16 F16 YV DK hG2 hBne
         generalize ((wk.setCell ⟨wv.heap.size, 0, none⟩ (.int .i64 (H : Int))).setCell ⟨wv.heap.size, 1, none⟩ (.int .i64 (m : Int))).setCell ⟨wv.heap.size, 2, none⟩ (.int .i64 (b.t : Int)) = wh at *
         generalize wv.heap.size = G at *
         -- the half is put back, from the world wh
         have k30 := HQ4.out.g.k3 0
         have k31 := HQ4.out.g.k3 1
         have k32 := HQ4.out.g.k3 2
         have k33 := HQ4.out.g.k3 3
         have WI := HQ4.out.g.hi
         have k160 := mG 0
         have k161 := mG 1
         have k162 := mG 2
         simp only [gB, gC, gD] at k30 k31 k32 k33 k160 k161 k162
         go_wp2_with fail
         refine (find_ok _ _ _ _ _ _ y.f y.e { y with l := l } H _ HQ4.out.g.own.at (by omega) sN.out.rise (fun x hx => by have := (sN.out.fit x hx).1.2.2.1; have := nN.1.e2; omega) (by omega)).mono ?_
         rintro ev w8 ⟨rfl, hb8⟩
         have HQ5 := gO (HQ4.out.below hb8)
         have oU := aC mG IV hb8
         have IW := gI IV hb8.size
         clear hb8 HQ4 mG k30 k31 k32 k33 k160 k161 k162 IV
         have k32 := HQ5.out.g.k3 2
         have WJ := HQ5.out.g.hi
         have k160 := oU 0
         have k161 := oU 1
         have k162 := oU 2
         simp only [gB, gC, gD] at k32 k160 k161 k162
         have IX : w.heap.size < w8.heap.size := by omega
         go_wp2_with fail
         have hbn := aB w8 (.cells #[.int .i64 (H : Int), .int .i64 (m : Int), .int .i64 (b.t : Int)] 63)
         have HQ6 := gO (HQ5.out.below hbn)
         have hnew : (w8.alloc (.cells #[.int .i64 (H : Int), .int .i64 (m : Int), .int .i64 (b.t : Int)] 63)).heap[w8.heap.size]? = some (.cells (aO ⟨H, m, b.t⟩).toArray 63 (0, 0)) := heap_alloc_new w8 _
         have hnn := (HQ5.out.g.own.ne (g := w8.heap.size) (.inr (Nat.le_refl _))).1
         clear HQ5 k32 k160 k161 k162 oU IW IX
         have hlbm : lb l H ≤ m1 := by have := jZ l H; omega
         generalize w8.heap.size = G2 at *
         generalize w8.alloc (.cells #[.int .i64 (H : Int), .int .i64 (m : Int), .int .i64 (b.t : Int)] 63) = wn at *
         refine (kQ (w.heap.size + 2) _ _ _ G2 (lb l H) l ⟨H, m, b.t⟩ _ HQ6.out.g.own.o1 hlbm (by omega) HQ6.out.g.hi hnew (fun e => hnn e.symm)).mono ?_
         rintro ev wi ⟨e1, f1, rfl, jV, hgi⟩
         have oC : (bG l ⟨H, m, b.t⟩).length = m1 + 1 := by unfold bG; rw [List.length_append, List.length_cons, List.length_take, List.length_drop]; have := jZ l H; simp only; omega
         have HM2 := gO (HQ6.out.grown hgi (l' := bG l ⟨H, m, b.t⟩) oC jV (.inr ⟨by omega, fun x hx => uU (HS3.out x hx)⟩))
         have HF2 := gO HM2.out.put3
         have m32 := HM2.out.k3 2
         have f32 := HM2.out.f3 2
         simp only [gB, gC, gD] at m32
         clear HQ6 hnew hnn jV hgi
         go_wp2
         go_roundw
         case rel => exact ⟨bG l ⟨H, m, b.t⟩, m, e1, m1 + 1, f1, HF2, by omega, HS1, HS2, HS3, IU.out.trans YU.out⟩
         case measure =>
          rw [show wr.cell? ⟨B, 1, none⟩ = some (.int .i64 ((m + 1 : Nat) : Int)) from HQ.out.k15 1, show (wi.setCell _ _).cell? ⟨B, 1, none⟩ = some (.int .i64 (m : Int)) from HF2.out.k15 1]
          simp [intOf]

       ·obtain rfl : o' = order := by omega
        have dgt : ¬ (o' : Int) < o' := by omega
        have k30 := HQ.out.g.k3 0
        have k31 := HQ.out.g.k3 1
        have k32 := HQ.out.g.k3 2
        have k33 := HQ.out.g.k3 3
        have k6 := HQ.out.g.k6
        have f6 := HQ.out.g.f6
        simp only [gB, gC, gD] at k30 k31 k32 k33
        go_wp2_with fail
        have hsd : bU l b.a b.t o' o' = l := by
         cases o' with
         | zero => rfl
         | succ o' => unfold bU; rw [if_neg (by omega)]
        have YW : Hid (z.take o' t = some ({ y with l := l }, b.a)) := by
         unfold Hid
         rw [WH.out, IU.out, hsd]
        clear hsd
        go_region
        go_wp2
        refine bodyPost_ret (v := .tuple #[.agg #[.int .i64 y.f, .int .i64 y.e, .slice b1 m1 d1, .slice a4 n2 c4], .int .i64 b.a, .int .i64 0]) (by simp [results, Tryz.results178, go_sem, k6]) rfl (.inr ⟨{ y with l := l }, b.a, b1, a4, m1, d1, c4, YW.out, by rw [HYF.out, HYE.out], ?_, ?_⟩)
        ·have no := HQ.out.g.own.ne (g := w.heap.size + 1) (.inl (by omega))
         exact (((((HQ.out.g.own.set no _ _).set no _ _).set no _ _).set no _ _).below ((Below.refl _ _).drew)).base (by omega)
        ·exact Below.drew (Below.setCell (Below.setCell (Below.setCell (Below.setCell HQ.out.g.bw (by simp only; omega) _) (by simp only; omega) _) (by simp only; omega) _) (by simp only; omega) _)
end
end Go.Proofs.YtcmpmobhongkiaaGreatDoor
