/- Contract of package buddy: Give. -/
import Derived.Test.YtbkajbjhffdlfaaDoorBlk11
namespace Go.Proofs.YtbkajbjhffdlfaaDoor
open Go.RowKit
set_option linter.unusedVariables false

/-- the state of buddy.Give -/
structure GInv (w W : World) (a1 a2 : Option Addr) (n1 n2 c1 c2 : Nat) (z : Zn) : Prop where
  k3 : ∀ i, W.cell? ⟨w.heap.size, i, none⟩ = (#[.int .i64 z.f, .int .i64 z.e, .slice a1 n1 c1, .slice a2 n2 c2] : Array Value)[i]?
  f3 : ∀ i, W.frozen? ⟨w.heap.size, i, none⟩ = false
  k6 : ∀ i, W.cell? ⟨w.heap.size + 1, i, none⟩ = (#[.int .i64 0, .int .i64 0, .slice none 0 0, .slice none 0 0] : Array Value)[i]?
  f6 : ∀ i, W.frozen? ⟨w.heap.size + 1, i, none⟩ = false
  own : ZOwn W (w.heap.size + 2) a1 a2 n1 n2 c1 c2 z
  hi : w.heap.size + 2 ≤ W.heap.size
  bw : Below w.heap.size w W
theorem GInv.below {w W W' : World} {a1 a2 : Option Addr} {n1 n2 c1 c2 : Nat} {z : Zn} (h : GInv w W a1 a2 n1 n2 c1 c2 z) (hb : Below W.heap.size W W') : GInv w W' a1 a2 n1 n2 c1 c2 z := by
  have h2 := h.hi
  exact ⟨box_step h.k3 (by omega) hb, frz_step h.f3 (by omega) hb, box_step h.k6 (by omega) hb, frz_step h.f6 (by omega) hb, h.own.below hb, Nat.le_trans h2 hb.size, Below.step h.bw hb⟩
/-- another zone is stored into the box -/
theorem GInv.put {w W : World} {a1 a2 : Option Addr} {n1 n2 c1 c2 : Nat} {z : Zn} (h : GInv w W a1 a2 n1 n2 c1 c2 z) {b1 b2 : Option Addr} {m1 m2 d1 d2 : Nat} {y : Zn} (ho : ZOwn W (w.heap.size + 2) b1 b2 m1 m2 d1 d2 y) :
    GInv w ((((W.setCell ⟨w.heap.size, 0, none⟩ (.int .i64 y.f)).setCell ⟨w.heap.size, 1, none⟩ (.int .i64 y.e)).setCell ⟨w.heap.size, 2, none⟩ (.slice b1 m1 d1)).setCell ⟨w.heap.size, 3, none⟩ (.slice b2 m2 d2)) b1 b2 m1 m2 d1 d2 y := by
  have h2 := h.hi
  have nn := ho.ne (g := w.heap.size) (.inl (by omega))
  exact ⟨box_set (box_set (box_set (box_set h.k3 0 _) 1 _) 2 _) 3 _, frz_set (frz_set (frz_set (frz_set h.f3 _ _) _ _) _ _) _ _, box_set_other (box_set_other (box_set_other (box_set_other h.k6 (by omega) _ _) (by omega) _ _) (by omega) _ _) (by omega) _ _, frz_set (frz_set (frz_set (frz_set h.f6 _ _) _ _) _ _) _ _, ((((ho.set nn _ _).set nn _ _).set nn _ _).set nn _ _), by simpa using h2, Below.setCell (Below.setCell (Below.setCell (Below.setCell h.bw (by simp only; omega) _) (by simp only; omega) _) (by simp only; omega) _) (by simp only; omega) _⟩

set_option maxHeartbeats 4000000 in
set_option maxRecDepth 100000 in
theorem give_ok (a1 a2 : Option Addr) (n1 n2 c1 c2 : Nat) (z : Zn) (p n : Nat) (w : World) (hat : ZAt w a1 a2 n1 n2 z) (hz : z.ok) (hl : z.l = []) (hp : z.f ≤ p) (hn : p + n ≤ z.e) :
    Calls Tryd.prog 26 #[.agg #[.int .i64 z.f, .int .i64 z.e, .slice a1 n1 c1, .slice a2 n2 c2], .int .i64 p, .int .i64 n] w fun ev w' => ∃ a1' a2' n1' c1' c2', ev = .returned (.tuple #[.agg #[.int .i64 z.f, .int .i64 z.e, .slice a1' n1' c1', .slice a2' n2 c2'], .int .i64 0]) ∧ ZOwn w' w.heap.size a1' a2' n1' n2 c1' c2' (giveTo z p n) ∧ Below w.heap.size w w' := by
  have hee := hz.1.e2
  have l1 := hat.l1
  have l2 := hat.l2
  have hl0 : z.l.length = 0 := by rw [hl]; rfl
  have hy32 : z.y.length ≤ 32 := by rw [hz.1.len]; omega
  obtain ⟨K3, K6, F3, F6, hsz, hbw⟩ := boxes2 w #[.int .i64 (z.f : Int), .int .i64 (z.e : Int), .slice a1 n1 c1, .slice a2 n2 c2] 26 #[.int .i64 0, .int .i64 0, .slice none 0 0, .slice none 0 0] 26
  have hat0 := hat.below hbw
  have d1 : decide (p < z.f) = false := decide_eq_false (by omega)
  have d2 : decide ((z.e : Int) < p) = false := decide_eq_false (by omega)
  have d3 : decide ((z.e : Int) - p < n) = false := decide_eq_false (by omega)
  have d4 : decide (z.e < p) = false := decide_eq_false (by omega)
  have d5 : (p : Int) ≤ z.e := by omega
  clear hat
  go_enter Tryd.func26, Tryd.ntmps26
  go_wp2_with fail
  generalize (w.alloc (.cells #[.int .i64 (z.f : Int), .int .i64 (z.e : Int), .slice a1 n1 c1, .slice a2 n2 c2] 26)).alloc (.cells #[.int .i64 0, .int .i64 0, .slice none 0 0, .slice none 0 0] 26) = w0 at *
  refine (check_ok _ _ _ _ _ _ z _ hat0 hz).mono ?_
  rintro ev w1 ⟨rfl, hb1⟩
  have K3b := box_step K3 (by omega) hb1
  have K6b := box_step K6 (by omega) hb1
  have F3b := frz_step F3 (by omega) hb1
  have F6b := frz_step F6 (by omega) hb1
  have hat1 := hat0.below hb1
  have hbw1 := Below.step hbw hb1
  have hB : w.heap.size + 2 ≤ w1.heap.size := by have := hb1.size; omega
  clear K3 K6 F3 F6 hb1 hat0 hbw hsz
  go_wp2_with fail
  refine (copy_ok _ _ _ _ _ _ z.f z.e z _ hat1 (by omega) (by omega)).mono ?_
  rintro ev w5 ⟨a3, a4, c3, c4, rfl, hown, hb5⟩
  have K3e := box_step K3b (by omega) hb5
  have K6e := box_step K6b (by omega) hb5
  have F3e := frz_step F3b (by omega) hb5
  have F6e := frz_step F6b (by omega) hb5
  have hbw5 := Below.step hbw1 hb5
  have hnn := (hown.ne (g := w.heap.size) (.inl (by omega)))
  have I1 : GInv w ((((w5.setCell ⟨w.heap.size, 0, none⟩ (.int .i64 z.f)).setCell ⟨w.heap.size, 1, none⟩ (.int .i64 z.e)).setCell ⟨w.heap.size, 2, none⟩ (.slice a3 n1 c3)).setCell ⟨w.heap.size, 3, none⟩ (.slice a4 n2 c4)) a3 a4 n1 n2 c3 c4 z := by
    have h5 := hb5.size
    exact ⟨box_set (box_set (box_set (box_set K3e 0 _) 1 _) 2 _) 3 _, frz_set (frz_set (frz_set (frz_set F3e _ _) _ _) _ _) _ _, box_set_other (box_set_other (box_set_other (box_set_other K6e (by omega) _ _) (by omega) _ _) (by omega) _ _) (by omega) _ _, frz_set (frz_set (frz_set (frz_set F6e _ _) _ _) _ _) _ _, (((((hown.base hB).set hnn _ _).set hnn _ _).set hnn _ _).set hnn _ _), by simp only [World.size_setCell]; omega, Below.setCell (Below.setCell (Below.setCell (Below.setCell hbw5 (by simp only; omega) _) (by simp only; omega) _) (by simp only; omega) _) (by simp only; omega) _⟩
  have HI := Hid.mk I1
  clear I1 K6e F6e hown hbw5 K3b K6b F3b F6b hat1 hbw1 hb5 hnn d1 d2 d3 d4 d5
  go_wp2
  clear K3e F3e
  generalize (((w5.setCell ⟨w.heap.size, 0, none⟩ (.int .i64 z.f)).setCell ⟨w.heap.size, 1, none⟩ (.int .i64 z.e)).setCell ⟨w.heap.size, 2, none⟩ (.slice a3 n1 c3)).setCell ⟨w.heap.size, 3, none⟩ (.slice a4 n2 c4) = w6 at *
  go_loopw [9] (fun s9 wr => ∃ (i : Nat) (b1 b2 : Option Addr) (m1 e1 e2 : Nat), i ≤ n ∧ s9 = .int .i64 ((p + i : Nat) : Int) ∧ Hid (GInv w wr b1 b2 m1 n2 e1 e2 (giveTo z p i))) (fun s9 _ => p + n - (intOf s9).toNat)
  case atStart => exact ⟨0, a3, a4, n1, c3, c4, Nat.zero_le _, by simp, HI⟩
  case round =>
    obtain ⟨i, b1, b2, m1, e1, e2, hin, rfl, HK⟩ := hrel
    clear HI
    by_cases hlt : i < n
    · obtain ⟨g1, g2, g3, g4⟩ := giveTo_ok (p := p) hz hl hp i (by omega)
      obtain ⟨s1, s2⟩ := giveTo_step (p := p) hz hl hp (n := i) (by omega)
      have I := HK.out
      have hHi := I.hi
      have k0 := I.k3 0
      have k1 := I.k3 1
      have k2 := I.k3 2
      have k3 := I.k3 3
      simp only [List.getElem?_toArray, List.getElem?_cons_zero, List.getElem?_cons_succ] at k0 k1 k2 k3
      have hwr : w.heap.size < wr.heap.size := by omega
      have dl : decide ((p : Int) + i < p + n) = true := decide_eq_true (by omega)
      have dl2 : decide (p + i < p + n) = true := decide_eq_true (by omega)
      have HGE : Hid (giveTo z p (i + 1) = (giveTo z p i).back (p + i) 0) := rfl
      have HS1 := Hid.mk s1
      have HS2 := Hid.mk s2
      have HG1 := Hid.mk g1
      have HG2 := Hid.mk g2
      have HG3 := Hid.mk g3
      clear g4 s1 s2 g1 g2 g3
      generalize giveTo z p i = y at *
      have HK2 := Hid.mk I
      clear I HK
      go_wp2_with fail
      refine (back_ok _ _ _ _ _ _ y (p + i) 0 _ HK2.out.own.at HG1.out HS1.out HS2.out).mono ?_
      rintro ev w7 ⟨b3, b4, m3, e3, e4, rfl, hown, hb7⟩
      have hHi7 := hb7.size
      have HK4 := Hid.mk (HK2.out.below hb7)
      have hown8 : ZOwn w7 (w.heap.size + 2) b3 b4 m3 n2 e3 e4 (y.back (p + i) 0) := hown.base hHi
      have HK5 : Hid (GInv w ((((w7.setCell ⟨w.heap.size, 0, none⟩ (.int .i64 y.f)).setCell ⟨w.heap.size, 1, none⟩ (.int .i64 y.e)).setCell ⟨w.heap.size, 2, none⟩ (.slice b3 m3 e3)).setCell ⟨w.heap.size, 3, none⟩ (.slice b4 n2 e4)) b3 b4 m3 n2 e3 e4 (y.back (p + i) 0)) := HK4.out.put hown8
      have HK6 := Hid.mk (HK5.out.below (below_alloc _ (.cells #[.int .i64 (y.f : Int), .int .i64 (y.e : Int), .slice b3 m3 e3, .slice b4 n2 e4] 26)))
      have ff3 := HK4.out.f3
      have k30 := HK4.out.k3 0
      have k31 := HK4.out.k3 1
      have k32 := HK4.out.k3 2
      have k33 := HK4.out.k3 3
      simp only [List.getElem?_toArray, List.getElem?_cons_zero, List.getElem?_cons_succ] at k30 k31 k32 k33
      have hwr7 : w.heap.size < w7.heap.size := by omega
      clear hown hown8 k0 k1 k2 k3 HK2 HK4 HK5 hb7
      go_wp2
      go_roundw
      case rel => exact ⟨i + 1, b3, b4, m3, e3, e4, by omega, by go_num, by rw [HGE.out]; exact HK6⟩
      case measure => simp [intOf]; omega
    · obtain rfl : i = n := by omega
      have HG := giveTo_ok (p := p) hz hl hp i (by omega)
      have I := HK.out
      have hHi := I.hi
      have k0 := I.k3 0
      have k1 := I.k3 1
      have k2 := I.k3 2
      have k3 := I.k3 3
      rw [HG.2.1, HG.2.2.1] at *
      simp only [List.getElem?_toArray, List.getElem?_cons_zero, List.getElem?_cons_succ] at k0 k1 k2 k3
      have x6 := I.k6
      have xf6 := I.f6
      have hwr : w.heap.size < wr.heap.size := by omega
      have HK2 := Hid.mk I
      clear I HK
      go_wp2
      refine bodyPost_ret (v := .tuple #[.agg #[.int .i64 z.f, .int .i64 z.e, .slice b1 m1 e1, .slice b2 n2 e2], .int .i64 0]) (by simp [results, Tryd.results26, go_sem, x6]) rfl ⟨b1, b2, m1, e1, e2, rfl, ?_, ?_⟩
      · have no := HK2.out.own.ne (g := w.heap.size + 1) (.inl (by omega))
        exact ((((HK2.out.own.set no _ _).set no _ _).set no _ _).set no _ _).base (base' := w.heap.size) (by omega)
      · have hbb := HK2.out.bw
        exact Below.setCell (Below.setCell (Below.setCell (Below.setCell hbb (by simp only; omega) _) (by simp only; omega) _) (by simp only; omega) _) (by simp only; omega) _
end Go.Proofs.YtbkajbjhffdlfaaDoor
