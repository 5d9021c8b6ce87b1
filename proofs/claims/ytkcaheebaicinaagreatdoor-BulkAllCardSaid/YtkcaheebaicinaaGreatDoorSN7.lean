/- Blk3: texts of this claim, joined. -/
import Derived.Test.YtkcaheebaicinaaGreatDoorSN6
import Derived.Deep.RegionWith
import Derived.Deep.RegionHeld3
import Derived.Deep.DeepCutAuto
/- Contracts of package buddy: Copy. -/
namespace Go.Proofs.YtkcaheebaicinaaGreatDoor
open Go.RowKit
set_option linter.unusedVariables false

set_option maxHeartbeats 2000000 in
set_option maxRecDepth 100000 in
theorem copy_ok (a1 a2 : Option Addr) (n1 n2 c1 c2 : Nat) (f e : Nat) (z : Zn) (w : World) (hat : ZAt w a1 a2 n1 n2 z) (hl1 : n1 ≤ 1000) (hl2 : n2 ≤ 1000) :
    Calls Tryz.prog 93 #[.agg #[.int .i64 f, .int .i64 e, .slice a1 n1 c1, .slice a2 n2 c2]] w fun ev w' => ∃ a1' a2' c1' c2', ev = .returned (.agg #[.int .i64 f, .int .i64 e, .slice a1' n1 c1', .slice a2' n2 c2']) ∧ ZOwn w' w.heap.size a1' a2' n1 n2 c1' c2' z ∧ Below w.heap.size w w' := by
  obtain ⟨K0, K1, F0, F1, hsz, hbw⟩ := boxes2 w #[.int .i64 (f : Int), .int .i64 (e : Int), .slice a1 n1 c1, .slice a2 n2 c2] 110 #[.int .i64 0, .int .i64 0, .slice none 0 0, .slice none 0 0] 110
  obtain ⟨l1, l2, q1, q2⟩ := hat.below hbw
  clear hat
  go_enter Tryz.func93, Tryz.ntmps93
  go_wp2_with fail
  generalize (w.alloc (.cells #[.int .i64 (f : Int), .int .i64 (e : Int), .slice a1 n1 c1, .slice a2 n2 c2] 110)).alloc (.cells #[.int .i64 0, .int .i64 0, .slice none 0 0, .slice none 0 0] 110) = w0 at *
  go_region_with (first | (go_at_call 98; refine (cloneBk _ _ _ z.l _ l1 (by omega) (q1.below (by first | exact Below.drew hb0k | exact hb0k | exact (Below.refl _ _).drew))).mono ?_; rintro ev wm ⟨am, cm, rfl, hom, hbm⟩; first | (have Km := box_step (w1 := wk) Kk Sk hbm; have Fm := frz_step (w1 := wk) Fk Sk hbm; have Sm : w.heap.size < wm.heap.size := Nat.lt_of_lt_of_le Sk hbm.size; have hb0m : Below w0.heap.size w0 wm := Below.step hb0k hbm) | (have Km := box_step (w1 := wk.drew) (fun o => Kk o) Sk hbm; have Fm := frz_step (w1 := wk.drew) (fun o => Fk o) Sk hbm; have Sm : w.heap.size < wm.heap.size := Nat.lt_of_lt_of_le Sk hbm.size; have hb0m : Below w0.heap.size w0 wm := Below.step (Below.drew hb0k) hbm) | (have Km := box_step (w1 := w0.drew) (fun o => K0 o) (show w.heap.size < w0.heap.size by omega) hbm; have Fm := frz_step (w1 := w0.drew) (fun o => F0 o) (show w.heap.size < w0.heap.size by omega) hbm; have Sm : w.heap.size < wm.heap.size := Nat.lt_of_lt_of_le (show w.heap.size < w0.heap.size by omega) hbm.size; have hb0m : Below w0.heap.size w0 wm := Below.step ((Below.refl _ _).drew) hbm)) | (go_at_call 60; refine (cloneT _ _ _ z.y _ l2 (by omega) (q2.below (by first | exact Below.drew hb0m | exact hb0m | exact (Below.refl _ _).drew))).mono ?_; rintro ev wk ⟨ak, ck, rfl, hok, hbk⟩; first | (have Kk := box_step (w1 := wm) Km Sm hbk; have Fk := frz_step (w1 := wm) Fm Sm hbk; have Sk : w.heap.size < wk.heap.size := Nat.lt_of_lt_of_le Sm hbk.size; have hb0k : Below w0.heap.size w0 wk := Below.step hb0m hbk) | (have Kk := box_step (w1 := wm.drew) (fun o => Km o) Sm hbk; have Fk := frz_step (w1 := wm.drew) (fun o => Fm o) Sm hbk; have Sk : w.heap.size < wk.heap.size := Nat.lt_of_lt_of_le Sm hbk.size; have hb0k : Below w0.heap.size w0 wk := Below.step (Below.drew hb0m) hbk) | (have Kk := box_step (w1 := w0.drew) (fun o => K0 o) (show w.heap.size < w0.heap.size by omega) hbk; have Fk := frz_step (w1 := w0.drew) (fun o => F0 o) (show w.heap.size < w0.heap.size by omega) hbk; have Sk : w.heap.size < wk.heap.size := Nat.lt_of_lt_of_le (show w.heap.size < w0.heap.size by omega) hbk.size; have hb0k : Below w0.heap.size w0 wk := Below.step ((Below.refl _ _).drew) hbk)))
  all_goals first
    | (
      have OF := own_below hom hbk (Nat.le_refl _)
      have K1k := box_step K1 (by omega) hb0k
      have F1k := frz_step F1 (by omega) hb0k
      have hz0 : w.heap.size + 1 < w0.drew.heap.size := hsz
      have hzm : w0.drew.heap.size ≤ wm.heap.size := hbm.size
      have nm1 := own_ne hom (b := w.heap.size) (.inl (by omega))
      have nm2 := own_ne hom (b := w.heap.size + 1) (.inl (by omega))
      have nk1 := own_ne hok (b := w.heap.size) (.inl (by omega))
      have nk2 := own_ne hok (b := w.heap.size + 1) (.inl (by omega))
      have HZ := Hid.mk ((show ZOwn wk w.heap.size am ak n1 n2 cm ck z from ⟨l1, l2, own_base OF (by omega), own_base hok (by omega)⟩).set (g := w.heap.size) ⟨nm1, nk1⟩ 2 (.slice am n1 cm) |>.set (g := w.heap.size) ⟨nm1, nk1⟩ 3 (.slice ak n2 ck))
      have hbw3 := Below.setCell (Below.setCell (Below.step hbw hb0k) (show w.heap.size ≤ (⟨w.heap.size, 2, none⟩ : Addr).block from Nat.le_refl _) (.slice am n1 cm)) (show w.heap.size ≤ (⟨w.heap.size, 3, none⟩ : Addr).block from Nat.le_refl _) (.slice ak n2 ck)
      have KX := box_set (box_set Kk 2 (.slice am n1 cm)) 3 (.slice ak n2 ck)
      have K1x := box_set_other (box_set_other K1k (c := w.heap.size) (by omega) 2 (.slice am n1 cm)) (c := w.heap.size) (by omega) 3 (.slice ak n2 ck)
      have F1x := frz_set (frz_set F1k ⟨w.heap.size, 2, none⟩ (.slice am n1 cm)) ⟨w.heap.size, 3, none⟩ (.slice ak n2 ck)
      clear K0 K1 F0 F1 Km Fm OF hom hok q1 q2 Kk Fk K1k F1k
      generalize (wk.setCell ⟨w.heap.size, 2, none⟩ (.slice am n1 cm)).setCell ⟨w.heap.size, 3, none⟩ (.slice ak n2 ck) = wx at *
      change ∀ o, wx.cell? ⟨w.heap.size, o, none⟩ = (#[.int .i64 (f : Int), .int .i64 (e : Int), .slice am n1 cm, .slice ak n2 ck] : Array Value)[o]? at KX
      go_wp2
      refine bodyPost_ret (v := .agg #[.int .i64 f, .int .i64 e, .slice am n1 cm, .slice ak n2 ck]) (by simp [results, Tryz.results93, go_sem, K1x]) rfl ⟨am, ak, cm, ck, rfl, ?_, ?_⟩
      · exact (((HZ.out.set ⟨nm2, nk2⟩ _ _).set ⟨nm2, nk2⟩ _ _).set ⟨nm2, nk2⟩ _ _).set ⟨nm2, nk2⟩ _ _
      · exact Below.setCell (Below.setCell (Below.setCell (Below.setCell hbw3 (by simp only; omega) _) (by simp only; omega) _) (by simp only; omega) _) (by simp only; omega) _

      )
    | (
      have OF := own_below hok hbm (Nat.le_refl _)
      have K1k := box_step K1 (by omega) hb0m
      have F1k := frz_step F1 (by omega) hb0m
      have hz0 : w.heap.size + 1 < w0.drew.heap.size := hsz
      have hzm : w0.drew.heap.size ≤ wk.heap.size := hbk.size
      have nm1 := own_ne hom (b := w.heap.size) (.inl (by omega))
      have nm2 := own_ne hom (b := w.heap.size + 1) (.inl (by omega))
      have nk1 := own_ne hok (b := w.heap.size) (.inl (by omega))
      have nk2 := own_ne hok (b := w.heap.size + 1) (.inl (by omega))
      have HZ := Hid.mk ((show ZOwn wm w.heap.size am ak n1 n2 cm ck z from ⟨l1, l2, own_base hom (by omega), own_base OF (by omega)⟩).set (g := w.heap.size) ⟨nm1, nk1⟩ 2 (.slice am n1 cm) |>.set (g := w.heap.size) ⟨nm1, nk1⟩ 3 (.slice ak n2 ck))
      have hbw3 := Below.setCell (Below.setCell (Below.step hbw hb0m) (show w.heap.size ≤ (⟨w.heap.size, 2, none⟩ : Addr).block from Nat.le_refl _) (.slice am n1 cm)) (show w.heap.size ≤ (⟨w.heap.size, 3, none⟩ : Addr).block from Nat.le_refl _) (.slice ak n2 ck)
      have KX := box_set (box_set Km 2 (.slice am n1 cm)) 3 (.slice ak n2 ck)
      have K1x := box_set_other (box_set_other K1k (c := w.heap.size) (by omega) 2 (.slice am n1 cm)) (c := w.heap.size) (by omega) 3 (.slice ak n2 ck)
      have F1x := frz_set (frz_set F1k ⟨w.heap.size, 2, none⟩ (.slice am n1 cm)) ⟨w.heap.size, 3, none⟩ (.slice ak n2 ck)
      clear K0 K1 F0 F1 Km Fm OF hom hok q1 q2 Kk Fk K1k F1k
      generalize (wm.setCell ⟨w.heap.size, 2, none⟩ (.slice am n1 cm)).setCell ⟨w.heap.size, 3, none⟩ (.slice ak n2 ck) = wx at *
      change ∀ o, wx.cell? ⟨w.heap.size, o, none⟩ = (#[.int .i64 (f : Int), .int .i64 (e : Int), .slice am n1 cm, .slice ak n2 ck] : Array Value)[o]? at KX
      go_wp2
      refine bodyPost_ret (v := .agg #[.int .i64 f, .int .i64 e, .slice am n1 cm, .slice ak n2 ck]) (by simp [results, Tryz.results93, go_sem, K1x]) rfl ⟨am, ak, cm, ck, rfl, ?_, ?_⟩
      · exact (((HZ.out.set ⟨nm2, nk2⟩ _ _).set ⟨nm2, nk2⟩ _ _).set ⟨nm2, nk2⟩ _ _).set ⟨nm2, nk2⟩ _ _
      · exact Below.setCell (Below.setCell (Below.setCell (Below.setCell hbw3 (by simp only; omega) _) (by simp only; omega) _) (by simp only; omega) _) (by simp only; omega) _

      )
end Go.Proofs.YtkcaheebaicinaaGreatDoor
